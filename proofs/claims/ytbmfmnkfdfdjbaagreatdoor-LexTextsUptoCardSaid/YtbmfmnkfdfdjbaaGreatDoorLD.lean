/-
  What a block string's raw text says. The library's variables are as they were laid.
-/
import Derived.Test.YtbmfmnkfdfdjbaaGreatDoorLC
import Derived.Deep.DeepCutAuto
import Derived.Deep.CutBlock
import Derived.Deep.CutRange
import Derived.Deep.RegionHeld3
namespace Go.Proofs.YtbmfmnkfdfdjbaaGreatDoor.D
open Go.RowKit Go.Shelf
set_option linter.unusedVariables false
set_option linter.unusedSimpArgs false

theorem indN_le (l : List UInt8) : indN l ≤ l.length := by unfold indN; omega
def blankL (l : List UInt8) : Bool := decide (indN l = l.length)
def cmStep (c : Int) (l : List UInt8) : Int := if indN l < l.length ∧ (c < 0 ∨ (indN l : Int) < c) then indN l else c
def commonL (L : List (List UInt8)) : Int := (L.drop 1).foldl cmStep (-1)
def cutL (c : Nat) (L : List (List UInt8)) : List (List UInt8) := L.take 1 ++ (L.drop 1).map (fun l => l.drop c)
def cutLines (L : List (List UInt8)) : List (List UInt8) := if 0 < commonL L then cutL (commonL L).toNat L else L
def trimLines (L : List (List UInt8)) : List (List UInt8) := ((L.dropWhile blankL).reverse.dropWhile blankL).reverse
/-- What a raw text says. -/
def blockP (s : List UInt8) : List UInt8 := Lib.join (trimLines (cutLines (linesL s))) [10]

def lenOf : Value → Nat | .slice _ n _ => n | _ => 0
theorem strC_at (L : List (List UInt8)) (k : Nat) (hk : k < L.length) : (strC L)[k]? = some (.string (bs (L.getD k []))) := by
  unfold strC
  simp [List.getD_eq_getElem?_getD, hk]
theorem strs_cell {w : World} {x : Nat} {L : List (List UInt8)} (h : w.heap[x]? = some (.cells (strC L) 9)) (k : Nat) (hk : k < L.length) : w.cell? ⟨x, k, none⟩ = some (.string (bs (L.getD k []))) := by
  rw [cell_at h]
  exact strC_at L k hk

/-- A row of strings without its first. -/
theorem slice_one (x o n c : Nat) (h1 : 1 ≤ n) (hc : n ≤ c) : ∃ o', (n - 1 = 0 ∨ o' = o + 1) ∧ ∀ w, (Instr.slice 31 (.slice (some ⟨x, o, none⟩) n c) (some (.int .i64 1)) none none).run Tryz.prog w = .ok (.slice (some ⟨x, o', none⟩) (n - 1) (c - 1)) w := by
  obtain ⟨i0, hi, hz0, hz1, hz2⟩ := info_parts (show (Tryz.prog.info? 9).map (fun i => (i.zero, i.size, i.bytes)) = some (some (.string ByteArray.empty), 1, 16) by kernel_rfl)
  by_cases hc1 : c = 1
  · refine ⟨o, Or.inl (by omega), fun w => ?_⟩
    have : n = 1 := by omega
    subst hc1 this
    simp [Instr.slice, run_underlying Tryz.underlying31, go_sem]
  · refine ⟨o + 1, Or.inr rfl, fun w => ?_⟩
    simp [Instr.slice, run_underlying Tryz.underlying31, go_sem]
    rw [if_pos (by omega), if_neg hc1]
theorem slice_but (w : World) (x o n c m : Nat) (h1 : m ≤ n) (hc : n ≤ c) : (Instr.slice 31 (.slice (some ⟨x, o, none⟩) n c) none (some (.int .i64 (m : Int))) none).run Tryz.prog w = .ok (.slice (some ⟨x, o, none⟩) m c) w := by
  obtain ⟨i0, hi, hz0, hz1, hz2⟩ := info_parts (show (Tryz.prog.info? 9).map (fun i => (i.zero, i.size, i.bytes)) = some (some (.string ByteArray.empty), 1, 16) by kernel_rfl)
  simp [Instr.slice, run_underlying Tryz.underlying31, go_sem]
  intro h
  omega
/-- The lines from the second one on, up to the k-th, cut. -/
def cutTo (c k : Nat) (L : List (List UInt8)) : List (List UInt8) := (List.range L.length).map fun j => if 1 ≤ j ∧ j < k then (L.getD j []).drop c else L.getD j []
theorem cutTo_len (c k : Nat) (L : List (List UInt8)) : (cutTo c k L).length = L.length := by simp [cutTo]
theorem cutTo_at (c k : Nat) (L : List (List UInt8)) (j : Nat) (hj : j < L.length) : (cutTo c k L).getD j [] = if 1 ≤ j ∧ j < k then (L.getD j []).drop c else L.getD j [] := by
  unfold cutTo
  rw [List.getD_eq_getElem?_getD, List.getElem?_map, List.getElem?_range hj]
  rfl
theorem list_ext {A B : List (List UInt8)} (h : A.length = B.length) (h2 : ∀ j, j < A.length → A.getD j [] = B.getD j []) : A = B := by
  apply List.ext_getElem h
  intro j h3 h4
  have := h2 j h3
  simpa [List.getD_eq_getElem?_getD, h3, h4] using this
theorem cutTo_one (c : Nat) (L : List (List UInt8)) : cutTo c 1 L = L := list_ext (cutTo_len _ _ _) (fun j hj => by
  rw [cutTo_len] at hj
  rw [cutTo_at c 1 L j hj, if_neg (by omega)])
theorem cutTo_all (c : Nat) (L : List (List UInt8)) : cutTo c L.length L = cutL c L := by
  refine list_ext (by rw [cutTo_len]; unfold cutL; simp; omega) (fun j hj => ?_)
  rw [cutTo_len] at hj
  rw [cutTo_at c L.length L j hj]
  unfold cutL
  by_cases h0 : j = 0
  · subst h0
    rw [if_neg (by omega)]
    cases L with
    | nil => simp at hj
    | cons a t => simp
  · rw [if_pos (by omega)]
    rw [List.getD_eq_getElem?_getD, List.getD_eq_getElem?_getD, List.getElem?_append_right (by simp; omega)]
    simp only [List.length_take, List.getElem?_map, List.getElem?_drop]
    rw [show 1 + (j - min 1 L.length) = j by omega, List.getElem?_eq_getElem hj]
    rfl
theorem cutTo_set (c k : Nat) (L : List (List UInt8)) (h1 : 1 ≤ k) (hk : k < L.length) : (strC (cutTo c k L)).setIfInBounds k (.string (bs ((L.getD k []).drop c))) = strC (cutTo c (k + 1) L) := by
  have e : ∀ (A : List (List UInt8)) (v : List UInt8), (strC A).setIfInBounds k (.string (bs v)) = strC (A.set k v) := by
    intro A v
    unfold strC
    rw [List.setIfInBounds_toArray]
    congr 1
    rw [List.map_set]
  rw [e]
  congr 1
  refine list_ext (by simp [cutTo_len]) (fun j hj => ?_)
  rw [List.length_set, cutTo_len] at hj
  rw [cutTo_at c (k + 1) L j hj]
  rw [List.getD_eq_getElem?_getD, List.getElem?_set]
  by_cases hjk : k = j
  · subst hjk
    rw [if_pos rfl, if_pos (by rw [cutTo_len]; exact hk), if_pos ⟨h1, by omega⟩]
    rfl
  · rw [if_neg hjk, ← List.getD_eq_getElem?_getD, cutTo_at c k L j hj]
    by_cases h : 1 ≤ j ∧ j < k
    · rw [if_pos h, if_pos ⟨h.1, by omega⟩]
    · rw [if_neg h, if_neg (by omega)]
theorem commonL_ge (L : List (List UInt8)) : -1 ≤ commonL L := by
  unfold commonL
  have h : ∀ (A : List (List UInt8)) (c : Int), -1 ≤ c → -1 ≤ A.foldl cmStep c := by
    intro A
    induction A with
    | nil => intro c h; exact h
    | cons a t ih =>
      intro c h
      apply ih
      unfold cmStep
      split
      · omega
      · exact h
  exact h _ _ (by omega)
theorem fold_snoc (L : List (List UInt8)) (k : Nat) (hk : k + 1 < L.length) : ((L.drop 1).take (k + 1)).foldl cmStep (-1) = cmStep (((L.drop 1).take k).foldl cmStep (-1)) (L.getD (k + 1) []) := by
  rw [List.take_add_one, List.foldl_append, List.getElem?_drop, List.getElem?_eq_getElem (by omega)]
  simp [List.getD_eq_getElem?_getD, hk, Nat.add_comm]

set_option maxHeartbeats 2000000 in
set_option maxRecDepth 100000 in
theorem block_text_c (w : World) (s : List UInt8) (hV : Vars w) (hs : s.length ≤ 1100000) (hl : ∀ l ∈ linesL s, l.length ≤ 1100000) (hn : (linesL s).length ≤ 1100001) (hj : (blockP s).length ≤ 140737488355328) :
    Calls Tryz.prog 5 #[.string (bs s)] w fun e w' => e = .returned (.string (bs (blockP s))) ∧ Fr (fun _ => False) w w' := by
  have HLN := hid (lines_c w s hV hs)
  have h1 : 1 ≤ (linesL s).length := by rw [linesL_len]; omega
  have HJ := hid hj
  have HL := hid hl
  obtain ⟨L, hL⟩ : ∃ L, L = linesL s := ⟨_, rfl⟩
  have HB := hid (show blockP s = Lib.join (trimLines (cutLines L)) [10] by rw [hL]; rfl)
  rw [← hL] at HLN h1 HL hn
  obtain ⟨R, hR⟩ : ∃ R, R = blockP s := ⟨_, rfl⟩
  rw [← hR] at HB HJ ⊢
  clear hV hs hl hj hL hR
  go_enter Tryz.func5, Tryz.ntmps5
  go_wp2_with fail
  refine HLN.out.mono ?_
  rintro e w1 ⟨x, rfl, hx1, hlow, hf1⟩
  have HX := hid hx1
  have HLO := hid hlow
  have HF1 := hid hf1
  clear hx1 hlow hf1 HLN
  obtain ⟨N, hN⟩ : ∃ N, N = L.length := ⟨_, rfl⟩
  rw [← hN] at h1 hn ⊢
  have HN := hid hN
  clear hN
  obtain ⟨o1, ho1, hso⟩ := slice_one x 0 N N h1 (Nat.le_refl _)
  have HO1 := hid ho1
  clear ho1
  go_wp2_with fail
  clear hso
  go_loopw [4, 14] (fun v4 v14 wx => ∃ (k : Nat) (C : Int), v14 = .int .i64 k ∧ k ≤ N - 1 ∧ v4 = .int .i64 C ∧ Hid (C = ((L.drop 1).take k).foldl cmStep (-1)) ∧ Hid (Fr (fun _ => False) w1 wx)) (fun _ v _ => N - 1 - (intOf v).toNat)
  case atStart => exact ⟨0, -1, rfl, by omega, rfl, hid rfl, hid (Fr.refl _ _)⟩
  case round =>
    obtain ⟨k, C, rfl, hk, rfl, HC, HF⟩ := hrel
    by_cases hend : k = N - 1
    case neg =>
      as_aux_lemma =>
        have hk1 : k + 1 < N := by omega
        have hkd : k < N - 1 := by omega
        have hkl : k + 1 < L.length := by have h : N = L.length := HN.out; omega
        have hld : wr.cell? ⟨x, o1 + k, none⟩ = some (.string (bs (L.getD (k + 1) []))) := by
          have h0 : k + 1 < L.length := hkl
          have h2 := strs_cell (HF.out.at HX.out (fun f => f)) (k + 1) h0
          have h3 : N - 1 = 0 ∨ o1 = 0 + 1 := HO1.out
          rwa [show o1 + k = k + 1 by omega]
        have HST := hid (show ((L.drop 1).take (k + 1)).foldl cmStep (-1) = cmStep C (L.getD (k + 1) []) by rw [fold_snoc L k hkl, HC.out])
        have hll : (L.getD (k + 1) []).length ≤ 1100000 := HL.out _ (by rw [List.getD_eq_getElem?_getD, List.getElem?_eq_getElem hkl]; exact List.getElem_mem hkl)
        obtain ⟨l, hl⟩ : ∃ l, l = L.getD (k + 1) [] := ⟨_, rfl⟩
        rw [← hl] at hld HST hll
        have HIN := hid (indent_c wr l (by omega))
        have hni := indN_le l
        obtain ⟨z, hz⟩ : ∃ z, z = indN l := ⟨_, rfl⟩
        have HZ := hid hz
        rw [← hz] at HIN hni
        have hz2 := size_bs l
        have HKD := hid hkd
        clear hl hz
        go_wp2_with fail
        refine HIN.out.mono ?_
        rintro e w2 ⟨rfl, hf2⟩
        have HF2 := hid (HF.out.trans hf2 (fun _ _ f => f))
        clear hf2 hld HIN
        by_cases a1 : z < l.length
        · have b1 : (z : Int) < (l.length : Int) := by omega
          by_cases a2 : C < 0
          · have hs : z < l.length ∧ (C < 0 ∨ (z : Int) < C) := ⟨a1, Or.inl a2⟩
            have HH := hid hs
            clear hs
            go_wp2_with fail
            go_roundw
            case measure => have h1 : k < N - 1 := HKD.out; simp [intOf]; omega
            exact ⟨k + 1, z, by go_num, by have h1 : k < N - 1 := HKD.out; omega, rfl, hid (by rw [HST.out, cmStep, ← HZ.out, if_pos HH.out]), HF2⟩
          · have b2 : decide (C < 0) = false := decide_eq_false a2
            by_cases a3 : (z : Int) < C
            · have HH := hid (show z < l.length ∧ (C < 0 ∨ (z : Int) < C) from ⟨a1, Or.inr a3⟩)
              go_wp2_with fail
              go_roundw
              case measure => have h1 : k < N - 1 := HKD.out; simp [intOf]; omega
              exact ⟨k + 1, z, by go_num, by have h1 : k < N - 1 := HKD.out; omega, rfl, hid (by rw [HST.out, cmStep, ← HZ.out, if_pos HH.out]), HF2⟩
            · have HH := hid (show ¬ (z < l.length ∧ (C < 0 ∨ (z : Int) < C)) from fun e => e.2.elim a2 a3)
              have b3 : decide ((z : Int) < C) = false := decide_eq_false a3
              go_wp2_with fail
              go_roundw
              case measure => have h1 : k < N - 1 := HKD.out; simp [intOf]; omega
              exact ⟨k + 1, C, by go_num, by have h1 : k < N - 1 := HKD.out; omega, rfl, hid (by rw [HST.out, cmStep, ← HZ.out, if_neg HH.out]), HF2⟩
        · have HH := hid (show ¬ (z < l.length ∧ (C < 0 ∨ (z : Int) < C)) from fun e => a1 e.1)
          have b1 : decide ((z : Int) < (l.length : Int)) = false := decide_eq_false (by omega)
          go_wp2_with fail
          go_roundw
          case measure => have h1 : k < N - 1 := HKD.out; simp [intOf]; omega
          exact ⟨k + 1, C, by go_num, by have h1 : k < N - 1 := HKD.out; omega, rfl, hid (by rw [HST.out, cmStep, ← HZ.out, if_neg HH.out]), HF2⟩
    have HCL := hid (show C = commonL L by
      rw [HC.out, hend, List.take_of_length_le (by have h : N = L.length := HN.out; simp; omega)]
      rfl)
    have hnk : ¬ k < N - 1 := by omega
    have HW := hid (HF.out.at HX.out (fun f => f))
    clear hend HC
    go_upto_block 2 with fail
    obtain ⟨w5, hw5⟩ : ∃ w5, w5 = wr := ⟨_, rfl⟩
    rw [← hw5] at HW HF ⊢
    clear hw5
    go_cut [8] (fun s8 wy => Hid (wy.heap[x]? = some (.cells (strC (cutLines L)) 9)) ∧ Hid (Fr (· = x) w5 wy))
    case first =>
      go_wp2_with fail
      go_loopw [8] (fun v8 wx => ∃ k : Nat, v8 = .int .i64 k ∧ 1 ≤ k ∧ k ≤ N ∧ Hid (wx.heap[x]? = some (.cells (strC (if 0 < C then cutTo C.toNat k L else L)) 9)) ∧ Hid (Fr (· = x) w5 wx)) (fun v _ => N - (intOf v).toNat)
      case atStart => exact ⟨1, rfl, Nat.le_refl _, h1, hid (by rw [cutTo_one]; split <;> exact HW.out), hid (Fr.refl _ _)⟩
      case round =>
        obtain ⟨k, rfl, hk1, hk2, HX2, HF2⟩ := hrel
        by_cases hgo : k < N ∧ 0 < C
        · as_aux_lemma =>
            obtain ⟨g1, g2⟩ := hgo
            obtain ⟨c, hc⟩ : ∃ c : Nat, C = c := ⟨C.toNat, by omega⟩
            subst hc
            have HX3 : Hid (wr.heap[x]? = some (.cells (strC (cutTo c k L)) 9)) := by have := HX2.out; rwa [if_pos g2, Int.toNat_natCast] at this
            have hkl : k < L.length := by have h : N = L.length := HN.out; omega
            have hll : (L.getD k []).length ≤ 1100000 := HL.out _ (by rw [List.getD_eq_getElem?_getD, List.getElem?_eq_getElem hkl]; exact List.getElem_mem hkl)
            have hld : wr.cell? ⟨x, k, none⟩ = some (.string (bs (L.getD k []))) := by
              have h := strs_cell HX3.out k (by rw [cutTo_len]; exact hkl)
              rwa [cutTo_at c k L k hkl, if_neg (by omega)] at h
            have hfz : wr.frozen? ⟨x, k, none⟩ = false := frozen_at HX3.out k
            have HST := hid (set_at HX3.out k (.string (bs ((L.getD k []).drop c))))
            have HCS := hid (cutTo_set c k L hk1 hkl)
            obtain ⟨l, hl⟩ : ∃ l, l = L.getD k [] := ⟨_, rfl⟩
            rw [← hl] at hld HST HCS hll
            have hz2 := size_bs l
            obtain ⟨m, hm⟩ : ∃ m : Nat, m = min c l.length := ⟨_, rfl⟩
            have hmin : ∀ w, (Builtin.min_ #[3, 3] 3 #[.int .i64 (c : Int), .int .i64 (l.length : Int)]).run Tryz.prog w = .ok (.int .i64 (m : Int)) w := by
              intro w
              rw [run_min_int2]
              congr 2
              rw [hm]
              split <;> omega
            have sl : ∀ W, (Instr.slice 9 (.string (bs l)) (some (.int .i64 (m : Int))) none none).run Tryz.prog W = .ok (.string (bs (l.drop c))) W := fun W => by
              have h := slice_from 9 Tryz.underlying9 W l (m : Int) (by omega) (by omega)
              rw [Int.toNat_natCast] at h
              rw [h]
              congr 3
              rw [hm]
              rcases Nat.le_total c l.length with h | h
              · rw [Nat.min_eq_left h]
              · rw [Nat.min_eq_right h, List.drop_eq_nil_of_le (Nat.le_refl _), List.drop_eq_nil_of_le h]
            have gN : k < N := g1
            have HG := hid g1
            have HGC := hid g2
            clear hl hm HX2 hkl
            go_wp2_with fail
            go_region
            go_wp2_with fail
            go_roundw
            case measure => have h1 : k < N := HG.out; simp [intOf]; omega
            refine ⟨k + 1, by go_num, by omega, HG.out, hid ?_, hid ?_⟩
            · rw [if_pos HGC.out, Int.toNat_natCast]
              have h1 := HST.out
              rw [HCS.out] at h1
              exact h1
            · exact (HF2.out.trans (fr_set1 wr x k _) (fun _ _ e => e)).trans (fr_no (S := (· = x)) (Fr.refl (fun _ => False) _).drew) (fun _ _ e => e)
        · have HEX := hid (show wr.heap[x]? = some (.cells (strC (cutLines L)) 9) by
            have h := HX2.out
            have hcl : commonL L = C := HCL.out.symm
            unfold cutLines
            rw [hcl]
            by_cases hC : 0 < C
            · rw [if_pos hC] at h ⊢
              have hkn : k = L.length := by have h2 : N = L.length := HN.out; have := fun h3 : k < N => hgo ⟨h3, hC⟩; omega
              rw [hkn, cutTo_all] at h
              exact h
            · rw [if_neg hC] at h ⊢
              exact h)
          by_cases hkN : k < N
          · have hC0 : decide (0 < C) = false := decide_eq_false (fun e => hgo ⟨hkN, e⟩)
            clear hgo
            go_wp2_with fail
            go_meet
            exact ⟨HEX, HF2⟩
          · clear hgo
            go_wp2_with fail
            go_meet
            exact ⟨HEX, HF2⟩
    case rest =>
      obtain ⟨HEX, HF2⟩ := hcut
      obtain ⟨w6, hw6⟩ : ∃ w6, w6 = wc := ⟨_, rfl⟩
      rw [← hw6] at HEX HF2 ⊢
      clear hw6
      have HLEN := hid (show (cutLines L).length = N by
        have h2 : N = L.length := HN.out
        unfold cutLines
        split
        · unfold cutL
          simp
          omega
        · exact h2.symm)
      have HLM := hid (show ∀ l ∈ cutLines L, l.length ≤ 1100000 by
        intro l hl
        unfold cutLines at hl
        split at hl
        · unfold cutL at hl
          rcases List.mem_append.1 hl with h | h
          · exact HL.out l (List.mem_of_mem_take h)
          · obtain ⟨l', h3, rfl⟩ := List.mem_map.1 h
            have := HL.out l' (List.mem_of_mem_drop h3)
            rw [List.length_drop]
            omega
        · exact HL.out l hl)
      obtain ⟨M0, hM0⟩ : ∃ M, M = cutLines L := ⟨_, rfl⟩
      rw [← hM0] at HEX HLEN HLM HB
      have HF3 := hid (show Fr (fun _ => False) w w6 from ((HF1.out.trans HF.out (fun _ _ f => f)).trans HF2.out (fun i hi e => by have h3 : w.heap.size ≤ x := HLO.out; omega)))
      clear hM0 HF2 HF HW
      go_upto_block 4 with fail
      go_cut [3] (fun s3 wy => ∃ (o n c : Nat), s3 = .slice (some ⟨x, o, none⟩) n c ∧ n ≤ c ∧ c ≤ N ∧ Hid ((M0.dropWhile blankL).length = n) ∧ Hid (∀ j, j < n → wy.cell? ⟨x, o + j, none⟩ = some (.string (bs ((M0.dropWhile blankL).getD j [])))) ∧ Hid (Fr (fun _ => False) w6 wy))
      case first =>
        go_wp2_with fail
        go_loopw [3] (fun v3 wx => ∃ (o n c : Nat) (M : List (List UInt8)), v3 = .slice (some ⟨x, o, none⟩) n c ∧ n ≤ c ∧ c ≤ N ∧ Hid (M.length = n) ∧ Hid (∀ j, j < n → wx.cell? ⟨x, o + j, none⟩ = some (.string (bs (M.getD j [])))) ∧ Hid (M.dropWhile blankL = M0.dropWhile blankL) ∧ Hid (∀ l ∈ M, l.length ≤ 1100000) ∧ Hid (Fr (fun _ => False) w6 wx)) (fun v _ => lenOf v)
        case atStart => exact ⟨0, N, N, M0, rfl, Nat.le_refl _, Nat.le_refl _, HLEN, hid (fun j hj => by rw [Nat.zero_add]; exact strs_cell HEX.out j (by rw [HLEN.out]; exact hj)), hid rfl, HLM, hid (Fr.refl _ _)⟩
        case round =>
          obtain ⟨o, n, c, M, rfl, hnc, hcN, HML, HMC, HMD, HMM, HFr⟩ := hrel
          by_cases hn0 : n = 0
          · as_aux_lemma =>
              subst hn0
              have HMN := hid (show M = [] from List.length_eq_zero_iff.1 HML.out)
              go_wp2_with fail
              go_quiet (fail)
              go_wp2_with fail
              go_meet
              have h0 : M0.dropWhile blankL = [] := by rw [← HMD.out, HMN.out]; rfl
              exact ⟨o, 0, c, rfl, Nat.zero_le _, hcN, hid (by rw [h0]; rfl), hid (fun j hj => absurd hj (by omega)), hid (fr_dn HFr.out)⟩
          obtain ⟨a, M', hM⟩ : ∃ a M', M = a :: M' := by
            cases M with
            | nil => have := HML.out; simp at this; omega
            | cons a M' => exact ⟨a, M', rfl⟩
          subst hM
          have hld : wr.cell? ⟨x, o, none⟩ = some (.string (bs a)) := HMC.out 0 (by omega)
          have hal : a.length ≤ 1100000 := HMM.out a (by simp)
          have HIN := hid (fun W => indent_c W a (by omega))
          have hni := indN_le a
          obtain ⟨z, hz⟩ : ∃ z, z = indN a := ⟨_, rfl⟩
          have HZ := hid hz
          rw [← hz] at HIN hni
          have hz2 := size_bs a
          have hnp : (0 : Int) < (n : Int) := by omega
          have hnp2 : 0 < n := by omega
          have HNP := hid hnp2
          obtain ⟨o', ho', hso⟩ := slice_one x o n c (by omega) hnc
          have HO' := hid ho'
          clear hz hn0 ho'
          cases hb : blankL a with
          | true =>
            as_aux_lemma =>
              have e1 : ((z : Int) == (a.length : Int)) = true := by
                unfold blankL at hb
                have : indN a = a.length := by simpa using hb
                have hzz : z = indN a := HZ.out
                simp
                omega
              have HBL := hid hb
              clear hb
              go_wp2_with fail
              go_region_held3 (fun w' => w'.cell? ⟨x, o, none⟩ = some (.string (bs a)) ∧ Fr (fun _ => False) wr w')
                (first | exact ⟨hld, (Fr.refl _ _).drew⟩ | exact ⟨cells_stay2 (by assumption) hld, by assumption⟩ | go_keep)
                (first
                  | (go_at_call 11; refine (HIN.out _).mono ?_; rintro e w' ⟨rfl, hf'⟩; have hf' := (Fr.refl (fun _ => False) wr).drew.trans hf' (fun _ _ f => f)))
              rename_i hS
              have HFz := hid (HFr.out.trans hS.2 (fun _ _ f => f))
              have HFy := hid hS.2
              clear hS hld
              go_wp2_with fail
              go_roundw
              case measure => have h1 : 0 < n := HNP.out; show n - 1 < n; omega
              refine ⟨o', n - 1, c - 1, M', rfl, by omega, by omega, hid (by have h1 := HML.out; simp at h1; omega), hid (fun j hj => ?_), hid (by have h1 := HMD.out; rw [List.dropWhile_cons, if_pos HBL.out] at h1; exact h1), hid (fun l hl => HMM.out l (List.mem_cons_of_mem _ hl)), HFz⟩
              have h1 : n - 1 = 0 ∨ o' = o + 1 := HO'.out
              have h2 := HMC.out (j + 1) (by omega)
              rw [show o' + j = o + (j + 1) by omega]
              have h3 := cells_stay2 HFy.out h2
              rw [h3]
              rfl
          | false =>
            as_aux_lemma =>
              have e1 : ((z : Int) == (a.length : Int)) = false := by
                unfold blankL at hb
                have : ¬ indN a = a.length := by simpa using hb
                have hzz : z = indN a := HZ.out
                simp
                omega
              have HBL := hid hb
              clear hb
              go_wp2_with fail
              go_region_held3 (fun w' => w'.cell? ⟨x, o, none⟩ = some (.string (bs a)) ∧ Fr (fun _ => False) wr w')
                (first | exact ⟨hld, (Fr.refl _ _).drew⟩ | exact ⟨cells_stay2 (by assumption) hld, by assumption⟩ | go_keep)
                (first
                  | (go_at_call 11; refine (HIN.out _).mono ?_; rintro e w' ⟨rfl, hf'⟩; have hf' := (Fr.refl (fun _ => False) wr).drew.trans hf' (fun _ _ f => f)))
              rename_i hS
              have HFz := hid (HFr.out.trans hS.2 (fun _ _ f => f))
              have HFy := hid hS.2
              clear hS hld
              go_wp2_with fail
              go_meet
              have h0 : M0.dropWhile blankL = a :: M' := by rw [← HMD.out, List.dropWhile_cons, if_neg (by rw [HBL.out]; decide)]
              refine ⟨o, n, c, rfl, by omega, hcN, hid (by rw [h0]; exact HML.out), hid (fun j hj => ?_), HFz⟩
              rw [h0]
              exact cells_stay2 HFy.out (HMC.out j hj)
      case rest =>
        obtain ⟨o, n, c, rfl, hnc, hcN, HML, HMC, HF4⟩ := hcut
        have hc6 : c ≤ 1100001 := by omega
        obtain ⟨w7, hw7⟩ : ∃ w7, w7 = wc := ⟨_, rfl⟩
        rw [← hw7] at HMC HF4 ⊢
        clear hw7
        have HM1M := hid (show ∀ l ∈ M0.dropWhile blankL, l.length ≤ 1100000 from fun l hl => HLM.out l ((List.dropWhile_sublist _).subset hl))
        obtain ⟨M1, hM1⟩ : ∃ M1, M1 = M0.dropWhile blankL := ⟨_, rfl⟩
        rw [← hM1] at HML HMC HM1M
        have HB1 := hid (show R = Lib.join ((M1.reverse.dropWhile blankL).reverse) [10] by rw [HB.out]; unfold trimLines; rw [hM1])
        clear hM1
        go_upto_block 6 with fail
        go_cut [3] (fun s3 wy => ∃ (n : Nat), s3 = .slice (some ⟨x, o, none⟩) n c ∧ n ≤ c ∧ Hid (((M1.reverse.dropWhile blankL).reverse).length = n) ∧ Hid (∀ j, j < n → wy.cell? ⟨x, o + j, none⟩ = some (.string (bs (((M1.reverse.dropWhile blankL).reverse).getD j [])))) ∧ Hid (Fr (fun _ => False) w7 wy))
        case first =>
          go_wp2_with fail
          go_loopw [3] (fun v3 wx => ∃ (n : Nat) (M : List (List UInt8)), v3 = .slice (some ⟨x, o, none⟩) n c ∧ n ≤ c ∧ Hid (M.length = n) ∧ Hid (∀ j, j < n → wx.cell? ⟨x, o + j, none⟩ = some (.string (bs (M.getD j [])))) ∧ Hid ((M.reverse.dropWhile blankL).reverse = (M1.reverse.dropWhile blankL).reverse) ∧ Hid (∀ l ∈ M, l.length ≤ 1100000) ∧ Hid (Fr (fun _ => False) w7 wx)) (fun v _ => lenOf v)
          case atStart => exact ⟨n, M1, rfl, hnc, HML, HMC, hid rfl, HM1M, hid (Fr.refl _ _)⟩
          case round =>
            obtain ⟨n, M, rfl, hnc, HML, HMC, HMD, HMM, HFr⟩ := hrel
            by_cases hn0 : n = 0
            · as_aux_lemma =>
                subst hn0
                have HMN := hid (show M = [] from List.length_eq_zero_iff.1 HML.out)
                go_wp2_with fail
                go_quiet (fail)
                go_wp2_with fail
                go_meet
                have h0 : (M1.reverse.dropWhile blankL).reverse = [] := by rw [← HMD.out, HMN.out]; rfl
                exact ⟨0, rfl, Nat.zero_le _, hid (by rw [h0]; rfl), hid (fun j hj => absurd hj (by omega)), hid (fr_dn HFr.out)⟩
            obtain ⟨m, hm⟩ : ∃ m, n = m + 1 := ⟨n - 1, by omega⟩
            subst hm
            obtain ⟨A, a, hM⟩ : ∃ A a, M = A ++ [a] := by
              have h1 : M ≠ [] := by intro e; have := HML.out; rw [e] at this; simp at this
              exact ⟨M.dropLast, M.getLast h1, (List.dropLast_concat_getLast h1).symm⟩
            subst hM
            have HAL := hid (show A.length = m by have := HML.out; simpa using this)
            have hat : ((A ++ [a]).getD m []) = a := by
              have := HAL.out
              rw [List.getD_eq_getElem?_getD, List.getElem?_append_right (by omega)]
              simp [this]
            have hld : wr.cell? ⟨x, o + m, none⟩ = some (.string (bs a)) := by have := HMC.out m (by omega); rwa [hat] at this
            have hal : a.length ≤ 1100000 := HMM.out a (by simp)
            have HIN := hid (fun W => indent_c W a (by omega))
            have hni := indN_le a
            obtain ⟨z, hz⟩ : ∃ z, z = indN a := ⟨_, rfl⟩
            have HZ := hid hz
            rw [← hz] at HIN hni
            have hz2 := size_bs a
            have hm6 : m + 1 ≤ 1100001 := by omega
            have q1 : (m : Int) < ((m + 1 : Nat) : Int) := by omega
            have q2 : (m : Int) < (m : Int) + 1 := by omega
            have q4 : IntKind.i64.wrap (((m + 1 : Nat) : Int) - 1) = (m : Int) := by rw [IntKind.wrap_i64]; omega
            have q5 : IntKind.i64.wrap ((m : Int) + 1 - 1) = (m : Int) := by rw [IntKind.wrap_i64]; omega
            have q6 : wrap64 ((m : Int) + 1 - 1) = (m : Int) := by unfold wrap64; omega
            have q7 : IntKind.i64.wrap (m : Int) = (m : Int) := by rw [IntKind.wrap_i64]; omega
            have hsl : ∀ w, (Instr.slice 31 (.slice (some ⟨x, o, none⟩) (m + 1) c) none (some (.int .i64 (m : Int))) none).run Tryz.prog w = .ok (.slice (some ⟨x, o, none⟩) m c) w := fun w => slice_but w x o (m + 1) c m (by omega) hnc
            clear hz hn0 hat
            cases hb : blankL a with
            | true =>
              as_aux_lemma =>
                have e1 : ((z : Int) == (a.length : Int)) = true := by
                  unfold blankL at hb
                  have : indN a = a.length := by simpa using hb
                  have hzz : z = indN a := HZ.out
                  simp
                  omega
                have HBL := hid hb
                clear hb
                go_wp2_with fail
                go_region_held3 (fun w' => w'.cell? ⟨x, o + m, none⟩ = some (.string (bs a)) ∧ Fr (fun _ => False) wr w')
                  (first | exact ⟨hld, (Fr.refl _ _).drew⟩ | exact ⟨cells_stay2 (by assumption) hld, by assumption⟩ | go_keep)
                  (first
                    | (go_at_call 11; refine (HIN.out _).mono ?_; rintro e w' ⟨rfl, hf'⟩; have hf' := (Fr.refl (fun _ => False) wr).drew.trans hf' (fun _ _ f => f)))
                rename_i hS
                have HFz := hid (HFr.out.trans hS.2 (fun _ _ f => f))
                have HFy := hid hS.2
                clear hS hld
                go_wp2_with fail
                go_roundw
                case measure => show m < m + 1; omega
                refine ⟨m, A, rfl, by omega, HAL, hid (fun j hj => ?_), hid (by have h1 := HMD.out; rw [List.reverse_append] at h1; simp only [List.reverse_cons, List.reverse_nil, List.nil_append, List.cons_append] at h1; rw [List.dropWhile_cons, if_pos HBL.out] at h1; exact h1), hid (fun l hl => HMM.out l (List.mem_append_left _ hl)), HFz⟩
                have h2 := HMC.out j (by omega)
                have h3 := cells_stay2 HFy.out h2
                rw [h3, List.getD_eq_getElem?_getD, List.getElem?_append_left (by rw [HAL.out]; exact hj), ← List.getD_eq_getElem?_getD]
            | false =>
              as_aux_lemma =>
                have e1 : ((z : Int) == (a.length : Int)) = false := by
                  unfold blankL at hb
                  have : ¬ indN a = a.length := by simpa using hb
                  have hzz : z = indN a := HZ.out
                  simp
                  omega
                have HBL := hid hb
                clear hb
                go_wp2_with fail
                go_region_held3 (fun w' => w'.cell? ⟨x, o + m, none⟩ = some (.string (bs a)) ∧ Fr (fun _ => False) wr w')
                  (first | exact ⟨hld, (Fr.refl _ _).drew⟩ | exact ⟨cells_stay2 (by assumption) hld, by assumption⟩ | go_keep)
                  (first
                    | (go_at_call 11; refine (HIN.out _).mono ?_; rintro e w' ⟨rfl, hf'⟩; have hf' := (Fr.refl (fun _ => False) wr).drew.trans hf' (fun _ _ f => f)))
                rename_i hS
                have HFz := hid (HFr.out.trans hS.2 (fun _ _ f => f))
                have HFy := hid hS.2
                clear hS hld
                go_wp2_with fail
                go_meet
                have h0 : (M1.reverse.dropWhile blankL).reverse = A ++ [a] := by
                  rw [← HMD.out, List.reverse_append]
                  simp only [List.reverse_cons, List.reverse_nil, List.nil_append, List.cons_append]
                  rw [List.dropWhile_cons, if_neg (by rw [HBL.out]; decide)]
                  simp
                refine ⟨m + 1, rfl, hnc, hid (by rw [h0]; exact HML.out), hid (fun j hj => ?_), HFz⟩
                rw [h0]
                exact cells_stay2 HFy.out (HMC.out j hj)
        case rest =>
          obtain ⟨n, rfl, hnc, HML2, HMC2, HF5⟩ := hcut
          obtain ⟨w8, hw8⟩ : ∃ w8, w8 = wc := ⟨_, rfl⟩
          rw [← hw8] at HMC2 HF5 ⊢
          clear hw8
          obtain ⟨M2, hM2⟩ : ∃ M2, M2 = (M1.reverse.dropWhile blankL).reverse := ⟨_, rfl⟩
          rw [← hM2] at HML2 HMC2 HB1
          have HF8 := hid (show Fr (fun _ => False) w w8 from (HF3.out.trans HF4.out (fun _ _ f => f)).trans HF5.out (fun _ _ f => f))
          have hxl : x < w8.heap.size := by
            have h1 := lt_of_at HEX.out
            have h2 := HF4.out.size
            have h3 := HF5.out.size
            omega
          have hmap : (M2.map bs).map (fun b : ByteArray => b.data.toList) = M2 := by
            rw [List.map_map]
            have : ((fun b : ByteArray => b.data.toList) ∘ bs) = id := by funext l; simp [bs]
            rw [this, List.map_id]
          have hlen2 : (M2.map bs).length = n := by rw [List.length_map]; exact HML2.out
          have hn1 : n ≤ 1100001 := by omega
          have HJN := Tryz.strings_Join x o c (M2.map bs) (bs [10]) w8 (fun j y hy => by
            rw [List.getElem?_map] at hy
            cases hq : M2[j]? with
            | none => rw [hq] at hy; cases hy
            | some l =>
              rw [hq] at hy
              injection hy with hy
              subst hy
              have hj := (List.getElem?_eq_some_iff.1 hq).1
              have h1 := HMC2.out j (by rw [← HML2.out]; exact hj)
              rw [List.getD_eq_getElem?_getD, hq] at h1
              exact h1) hxl (by rw [hlen2]; omega) (by rw [hlen2]; exact hnc) (by
            rw [hmap]
            have h1 : (bs [10]).data.toList = [10] := rfl
            rw [h1, ← HB1.out]
            have := HJ.out
            omega)
          rw [hmap, hlen2] at HJN
          have h1 : (bs [10]).data.toList = [10] := rfl
          rw [h1, ← HB1.out] at HJN
          have HJQ : Hid (Calls Tryz.prog 12 #[.slice (some ⟨x, o, none⟩) n c, .string (bs [10])] w8 fun e w' => e = .returned (.string (bs R)) ∧ Below w8.heap.size w8 w') := HJN
          clear HJN hmap hlen2 hn1 hM2 h1 hxl
          go_wp2_with fail
          refine HJQ.out.mono ?_
          rintro e w9 ⟨rfl, hb9⟩
          have HF9 := hid (HF8.out.trans (below_fr hb9 (Nat.le_refl _)) (fun _ _ f => f))
          clear hb9
          go_wp2_with fail
          go_ret
          exact ⟨rfl, HF9.out⟩

end Go.Proofs.YtbmfmnkfdfdjbaaGreatDoor.D
