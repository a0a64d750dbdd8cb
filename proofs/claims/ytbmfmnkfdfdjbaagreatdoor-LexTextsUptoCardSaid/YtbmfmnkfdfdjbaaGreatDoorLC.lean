/-
  A text's lines; how many blanks a line begins with. The library's variables are as they were laid.
-/
import Derived.Test.YtbmfmnkfdfdjbaaGreatDoorLA
import Derived.Shelf.Strings.SlTrimAscii
namespace Go.Proofs.YtbmfmnkfdfdjbaaGreatDoor.D
open Go.RowKit Go.Shelf
set_option linter.unusedVariables false
set_option linter.unusedSimpArgs false

/-- A row of strings, as cells. -/
def strC (L : List (List UInt8)) : Array Value := (L.map fun l => Value.string (bs l)).toArray
/-- A text with its line ends made one kind. -/
def oneEnd (s : List UInt8) : List UInt8 := Lib.replaceAll (Lib.replaceAll s [13, 10] [10]) [13] [10]
/-- A text's lines. -/
def linesL (s : List UInt8) : List (List UInt8) := (Lib.splitB (bs [10]) 0 (Lib.countB (bs (oneEnd s)) (bs [10])) (bs (oneEnd s))).map (fun b => b.data.toList)
/-- How many blanks a line begins with. -/
def indN (s : List UInt8) : Nat := s.length - (Lib.trimLeftS s [32, 9]).length

theorem trim_le (s : List UInt8) : (Lib.trimLeftS s [32, 9]).length ≤ s.length := by
  unfold Lib.trimLeftS
  exact (List.dropWhile_sublist _).length_le

set_option maxRecDepth 100000 in
theorem indent_c (w : World) (s : List UInt8) (hs : s.length ≤ 1000000000) :
    Calls Tryz.prog 11 #[.string (bs s)] w fun e w' => e = .returned (.int .i64 (indN s)) ∧ Fr (fun _ => False) w w' := by
  have HT := hid (Any.strings_TrimLeft_laid Tryz.lays161 (by kernel_rfl) (bs s) (bs [32, 9]) w (by rw [size_bs]; decide) (by
    intro j b hb
    have : b ∈ ([32, 9] : List UInt8) := List.mem_of_getElem? (by simpa [bs] using hb)
    simp at this
    rcases this with rfl | rfl <;> decide))
  have e0 : (bs s).data.toList = s := by simp [bs]
  have e1 : (bs [32, 9]).data.toList = [32, 9] := rfl
  rw [e0, e1] at HT
  have hle := trim_le s
  have HI := hid (show indN s = s.length - (Lib.trimLeftS s [32, 9]).length from rfl)
  have hz := size_bs s
  obtain ⟨T, hT⟩ : ∃ T, T = Lib.trimLeftS s [32, 9] := ⟨_, rfl⟩
  rw [← hT] at HT hle HI
  have hz2 := size_bs T
  obtain ⟨N, hN⟩ : ∃ N : Int, N = (indN s : Int) := ⟨_, rfl⟩
  have HN := hid (show N = (s.length : Int) - (T.length : Int) by rw [hN, HI.out]; omega)
  rw [← hN]
  clear hT hN e0 e1
  have HT2 : Hid (Calls Tryz.prog 24 #[.string (bs s), .string (bs [32, 9])] w fun e w' => e = .returned (.string (bs T)) ∧ Below w.heap.size w w') := HT
  clear HT
  go_enter Tryz.func11, Tryz.ntmps11
  go_wp2_with fail
  refine HT2.out.mono ?_
  rintro e w2 ⟨rfl, hb⟩
  have HB := hid (below_fr hb (Nat.le_refl _))
  clear hb
  go_wp2_with fail
  go_ret
  exact ⟨by rw [HN.out]; rfl, HB.out⟩

theorem repK_le {old new : List UInt8} (hl : new.length ≤ old.length) : ∀ (k : Nat) (s : List UInt8), (Lib.replaceK old new k s).length ≤ s.length
  | 0, s => Nat.le_refl _
  | k + 1, s => by
    rcases Lib.indexB_cases (bs s) (bs old) with h | ⟨i, h, hi⟩
    · have h : Lib.index s old = -1 := by have := h; simpa [Lib.indexB, bs] using this
      unfold Lib.replaceK
      rw [h]
      simp
    · have h : Lib.index s old = (i : Int) := by have := h; simpa [Lib.indexB, bs] using this
      rw [size_bs, size_bs] at hi
      rw [Lib.replaceK_hit old new k s i h]
      have := repK_le hl k (s.drop (i + old.length))
      simp only [List.length_append, List.length_take, List.length_drop] at this ⊢
      omega
theorem rep_le {old new s : List UInt8} (hl : new.length ≤ old.length) : (Lib.replaceAll s old new).length ≤ s.length := by
  unfold Lib.replaceAll Lib.replace
  split
  · exact Nat.le_refl _
  · exact repK_le hl _ _
theorem oneEnd_le (s : List UInt8) : (oneEnd s).length ≤ s.length := Nat.le_trans (rep_le (by decide)) (rep_le (by decide))
theorem linesL_len (s : List UInt8) : (linesL s).length = Lib.countB (bs (oneEnd s)) (bs [10]) + 1 := by
  unfold linesL
  rw [List.length_map]
  exact Lib.splitB_all (bs [10]) (by decide) 0 _ _ rfl

set_option maxHeartbeats 1000000 in
set_option maxRecDepth 100000 in
theorem lines_c (w : World) (s : List UInt8) (hV : Vars w) (hs : s.length ≤ 1100000) :
    Calls Tryz.prog 10 #[.string (bs s)] w fun e w' => ∃ x, e = .returned (.slice (some ⟨x, 0, none⟩) (linesL s).length (linesL s).length) ∧ w'.heap[x]? = some (.cells (strC (linesL s)) 9) ∧ w.heap.size ≤ x ∧ Fr (fun _ => False) w w' := by
  have HV := hid hV
  obtain ⟨m, hm⟩ := hV.2
  have HM := hid hm
  have e0 : ∀ l : List UInt8, (bs l).data.toList = l := fun l => by simp [bs]
  obtain ⟨s1, hs1⟩ : ∃ s1, s1 = Lib.replaceAll s [13, 10] [10] := ⟨_, rfl⟩
  obtain ⟨s2, hs2⟩ : ∃ s2, s2 = oneEnd s := ⟨_, rfl⟩
  have hl1 : s1.length ≤ 1100000 := by have := rep_le (old := [13, 10]) (new := [10]) (s := s) (by decide); rw [← hs1] at this; omega
  have hl2 : s2.length ≤ 1100000 := by have := oneEnd_le s; rw [← hs2] at this; omega
  have C1 := hid (show Calls Tryz.prog 22 #[.string (bs s), .string (bs [13, 10]), .string (bs [10])] w fun e w' => e = .returned (.string (bs s1)) ∧ Below w.heap.size w w' from by
    have c1 := Tryz.strings_ReplaceAll (bs s) (bs [13, 10]) (bs [10]) m w (by rw [size_bs]; omega) hm (by decide) (by
      have := Lib.countB_le (bs [13, 10]) (by decide) (bs s).size (bs s) (Nat.le_refl _)
      rw [size_bs] at this
      rw [size_bs, size_bs]
      have h1 : ([10] : List UInt8).length = 1 := rfl
      rw [h1]
      omega)
    rw [e0, e0, e0, ← hs1] at c1
    exact c1)
  have C2 := hid (fun (W : World) (hW : W.cell? ⟨0, 0, none⟩ = some (.int .i64 m)) => show Calls Tryz.prog 22 #[.string (bs s1), .string (bs [13]), .string (bs [10])] W fun e w' => e = .returned (.string (bs s2)) ∧ Below W.heap.size W w' from by
    have c1 := Tryz.strings_ReplaceAll (bs s1) (bs [13]) (bs [10]) m W (by rw [size_bs]; omega) hW (by decide) (by
      have := Lib.countB_le (bs [13]) (by decide) (bs s1).size (bs s1) (Nat.le_refl _)
      rw [size_bs] at this
      rw [size_bs, size_bs]
      have h1 : ([10] : List UInt8).length = 1 := rfl
      rw [h1]
      omega)
    rw [e0, e0, e0] at c1
    rw [hs2]
    unfold oneEnd
    rw [← hs1]
    exact c1)
  have C3 := hid (fun (W : World) (hW : W.cell? ⟨0, 0, none⟩ = some (.int .i64 m)) => show Calls Tryz.prog 23 #[.string (bs s2), .string (bs [10])] W fun e w' => e = .returned (.slice (some ⟨W.heap.size, 0, none⟩) (linesL s).length (linesL s).length) ∧ w' = W.alloc (.cells (strC (linesL s)) 9) from by
    have c1 := Tryz.strings_Split (bs s2) (bs [10]) m W (by rw [size_bs]; omega) hW (by decide)
    have e1 : Lib.countB (bs s2) (bs [10]) + 1 = (linesL s).length := by rw [linesL_len, ← hs2]
    have e2 : ((Lib.splitB (bs [10]) 0 (Lib.countB (bs s2) (bs [10])) (bs s2)).map Value.string).toArray = strC (linesL s) := by
      unfold strC linesL
      rw [← hs2, List.map_map]
      congr 1
    rw [e1, e2] at c1
    exact c1)
  obtain ⟨L, hL⟩ : ∃ L, L = linesL s := ⟨_, rfl⟩
  rw [← hL] at C3 ⊢
  clear hV hm hs1 hs2 hL e0 hl1 hl2
  go_enter Tryz.func10, Tryz.ntmps10
  go_wp2_with fail
  refine C1.out.mono ?_
  rintro e w2 ⟨rfl, hb2⟩
  have HF2 := hid (below_fr hb2 (Nat.le_refl _))
  clear hb2
  go_wp2_with fail
  refine (C2.out w2 (cells_stay2 HF2.out HM.out)).mono ?_
  rintro e w3 ⟨rfl, hb3⟩
  have HF3 := hid (HF2.out.trans (below_fr hb3 (Nat.le_refl _)) (fun _ _ f => f))
  clear hb3
  go_wp2_with fail
  refine (C3.out w3 (cells_stay2 HF3.out HM.out)).mono ?_
  rintro e w4 ⟨rfl, hw4⟩
  have H4 := hid hw4
  clear hw4
  go_wp2_with fail
  go_ret
  refine ⟨w3.heap.size, rfl, ?_, HF3.out.size, ?_⟩
  · rw [H4.out]
    exact (MapKept.heap_alloc w3 _).1
  · rw [H4.out]
    exact HF3.out.alloc _

end Go.Proofs.YtbmfmnkfdfdjbaaGreatDoor.D
