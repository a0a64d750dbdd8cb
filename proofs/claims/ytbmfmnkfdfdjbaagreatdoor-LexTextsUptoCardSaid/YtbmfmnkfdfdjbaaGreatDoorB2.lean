/-
  The document's indent and digit; bytes appended. No condition beyond the sizes that are named.
-/
import Derived.Test.YtbmfmnkfdfdjbaaGreatDoorT7
import Derived.Test.YtbmfmnkfdfdjbaaGreatDoorB1
import Derived.Test.YtbmfmnkfdfdjbaaGreatDoorT1
namespace Go.Proofs.YtbmfmnkfdfdjbaaGreatDoor.D
open Go.RowKit Go.Shelf
set_option linter.unusedVariables false
set_option linter.unusedSimpArgs false

theorem indN_run (s : List UInt8) : indN s = runN [32, 9] s := by
  unfold indN runN Lib.trimLeftS
  have h := congrArg List.length (List.takeWhile_append_dropWhile (p := (([32, 9] : List UInt8).contains ·)) (l := s))
  rw [List.length_append] at h
  omega
theorem ws_cases (c : UInt8) : ([32, 9] : List UInt8).contains c = ((c == 9) || (c == 32)) := by
  apply Bool.eq_iff_iff.2
  simp [or_comm]

set_option maxRecDepth 100000 in
theorem rindent_c (w : World) (s : List UInt8) (hs : s.length ≤ 1100000) :
    Calls Tryz.prog 14 #[.string (bs s)] w fun e w' => e = .returned (.int .i64 (indN s)) ∧ Fr (fun _ => False) w w' := by
  have hz := size_bs s
  have HI := hid (indN_run s)
  go_enter Tryz.func14, Tryz.ntmps14
  go_wp2_with fail
  go_loopw [3] (fun v wx => ∃ k : Nat, v = .int .i64 k ∧ k ≤ s.length ∧ Hid (indN s = k + runN [32, 9] (s.drop k)) ∧ Hid (Fr (fun _ => False) w wx)) (fun v _ => s.length - (intOf v).toNat)
  case atStart => exact ⟨0, rfl, by omega, hid (by rw [HI.out]; simp), hid (Fr.refl _ _)⟩
  case round =>
    obtain ⟨k, rfl, hk, HQ, HF⟩ := hrel
    by_cases hd : k < s.length
    · have hx : ∀ w, (Instr.index 9 (.string (bs s)) (.int .i64 (k : Int))).run Tryz.prog w = .ok (.int .u8 ((pk s k).toNat : Int)) w := fun w => idx_bs _ Tryz.underlying9 w s _ k rfl hd
      have hd' : (k : Int) < (s.length : Int) := by omega
      have HD := hid hd
      have e9 := byte_eq (pk s k) 9
      have e32 := byte_eq (pk s k) 32
      rw [show ((9 : UInt8).toNat : Int) = 9 by rfl] at e9
      rw [show ((32 : UInt8).toNat : Int) = 32 by rfl] at e32
      have hw := ws_cases (pk s k)
      obtain ⟨v, hv⟩ : ∃ v : Int, v = ((pk s k).toNat : Int) := ⟨_, rfl⟩
      rw [← hv] at hx e9 e32
      cases h9 : pk s k == 9 with
      | true =>
        rw [h9] at e9 hw
        have HQ2 := hid (runN_in hd (show ([32, 9] : List UInt8).contains (pk s k) = true by rw [hw]; rfl))
        clear hv hw h9 e32
        go_wp2_with fail
        go_roundw
        case measure => have := HD.out; simp [intOf]; omega
        exact ⟨k + 1, by go_num, HD.out, hid (by rw [HQ.out, HQ2.out]; omega), HF⟩
      | false =>
        rw [h9] at e9 hw
        cases h32 : pk s k == 32 with
        | true =>
          rw [h32] at e32 hw
          have HQ2 := hid (runN_in hd (show ([32, 9] : List UInt8).contains (pk s k) = true by rw [hw]; rfl))
          clear hv hw h9 h32
          go_wp2_with fail
          go_roundw
          case measure => have := HD.out; simp [intOf]; omega
          exact ⟨k + 1, by go_num, HD.out, hid (by rw [HQ.out, HQ2.out]; omega), HF⟩
        | false =>
          rw [h32] at e32 hw
          have HQ2 := hid (runN_out (show ([32, 9] : List UInt8).contains (pk s k) = false by rw [hw]; rfl) hd)
          clear hv hw h9 h32
          go_wp2_with fail
          go_ret
          exact ⟨by rw [HQ.out, HQ2.out]; rfl, HF.out⟩
    · have HQ2 := hid (runN_end (p := [32, 9]) (s := s) (j := k) (by omega))
      have hd' : decide ((k : Int) < (s.length : Int)) = false := by simp; omega
      go_wp2_with fail
      go_ret
      exact ⟨by rw [HQ.out, HQ2.out]; rfl, HF.out⟩

theorem hx_num : ∀ d : Fin 16, ((hx d.1).toNat : Int) = if d.1 < 10 then 48 + (d.1 : Int) else 87 + (d.1 : Int) := by decide
set_option maxRecDepth 100000 in
theorem digit_c (w : World) (n : Nat) (hn : n < 16) :
    Calls Tryz.prog 20 #[.int .i64 n] w fun e w' => e = .returned (.int .u8 (hx n).toNat) ∧ w' = w := by
  have h := hx_num ⟨n, hn⟩
  simp only at h
  rw [h]
  by_cases h10 : n < 10
  · rw [if_pos h10]
    have h10' : (n : Int) < 10 := by omega
    go_enter Tryz.func20, Tryz.ntmps20
    go_wp2_with fail
    go_ret
    exact ⟨rfl, rfl⟩
  · rw [if_neg h10]
    have h10' : decide ((n : Int) < 10) = false := by simp; omega
    have e1 : 97 + (n : Int) - 10 = 87 + (n : Int) := by omega
    go_enter Tryz.func20, Tryz.ntmps20
    go_wp2_with fail
    go_ret
    exact ⟨by first | rfl | (congr 2; omega), rfl⟩

/-- Bytes that are written out, appended. -/
theorem append_bs (W : World) (B : Nat) (v : Value) (l m : List UInt8) (cs : Array Value) (hcs : cs = (Lib.byteCells m).toArray) (h : Rw W B v l) (hl : l.length + m.length ≤ 100000000000000) (hB : B ≤ W.heap.size) :
    ∃ v' W', (Builtin.append_ #[35, 35] 35 #[v, .slice (some ⟨W.heap.size, 0, none⟩) m.length m.length]).run Tryz.prog (W.alloc (.cells cs 5)) = .ok v' W' ∧ Rw W' B v' (l ++ m) ∧ Fr (fun i => v.ownBlock = some i) W W' := by
  obtain ⟨i0, hi, hz0, hz1, hz2⟩ := info_parts (show (Tryz.prog.info? 5).map (fun i => (i.zero, i.size, i.bytes)) = some (some (.int .u8 0), 1, 1) by kernel_rfl)
  obtain ⟨W1, hW1⟩ : ∃ W1, W1 = W.alloc (.cells cs 5) := ⟨_, rfl⟩
  have hF0 : Fr (fun _ => False) W W1 := hW1 ▸ (Fr.refl _ W).alloc _
  have hG : W1.heap[W.heap.size]? = some (.cells cs 5) := by rw [hW1]; exact Array.getElem?_push_size
  rw [← hW1]
  obtain ⟨v', w2, hrun, hown2, hgr2, hnil⟩ := run_append_own (P := Tryz.prog) W1 B 35 35 5 i0 _ 1 1 Tryz.underlying35 hi hz0 hz1 hz2 rfl (by decide)
    v l.length (Lib.byteCells l) (h.stay hF0).1 ⟨W.heap.size, 0, none⟩ m.length m.length (Lib.byteCells m) (by rw [Lib.byteCells_length]; omega) (by
      intro j u hu
      have e1 : (⟨W.heap.size, 0, none⟩ : Addr).add j = ⟨W.heap.size, j, none⟩ := by unfold Addr.add; split <;> simp_all
      rw [e1, cell_at hG, hcs]
      simpa using hu) (by
      intro u hu
      unfold Lib.byteCells at hu
      obtain ⟨b, _, rfl⟩ := List.mem_map.1 hu
      rfl) (by unfold maxLen; omega) (by omega) (by have := hF0.size; omega)
  rw [← Lib.byteCells_append, ← List.length_append] at hown2
  refine ⟨v', w2, hrun, ⟨hown2, ?_⟩, (fr_no hF0).trans ⟨hgr2.os, hgr2.tape, hgr2.output, hgr2.size, fun i hi hn => hgr2.block i hi (fun e => hn (by simpa using e.symm))⟩ (fun i _ e => e)⟩
  rcases hown2.2 with ⟨e, _⟩ | ⟨g, cap, cur, e, _⟩
  · obtain ⟨g, cap, hv⟩ := h.2
    have := (hnil.1 e).1
    rw [hv] at this
    cases this
  · exact ⟨g, cap, e⟩

end Go.Proofs.YtbmfmnkfdfdjbaaGreatDoor.D
