/-
  The document's Big, value, Many; noughts onto an owned row. No condition beyond the sizes that are named.
-/
import Derived.Test.YthmnchemfigneaaGreatWP
import Derived.Lib.AppendZerosOnto
namespace Go.Proofs.YthmnchemfigneaaGreat.D
open Go.RowKit Go.Maps Go.Shelf
set_option linter.unusedVariables false
set_option linter.unusedSimpArgs false

set_option maxHeartbeats 4000000 in
set_option maxRecDepth 100000 in
theorem value_c (w : World) (l : List UInt8) (hl : l.length ≤ 8) :
    Calls Tryz.prog 68 #[.string (bs l)] w fun e w' => e = .returned (.int .u64 (val l)) ∧ w = w' := by
  go_enter Tryz.func68, Tryz.ntmps68
  go_wp2_with fail
  go_loop [4, 3] (fun v v2 => ∃ k : Nat, v = .int .i64 k ∧ k ≤ l.length ∧ v2 = .int .u64 (val (l.take k))) (fun v _ => l.length - (intOf v).toNat)
  case atStart => exact ⟨0, rfl, by omega, rfl⟩
  case round =>
    obtain ⟨k, rfl, hk, rfl⟩ := hrel
    by_cases hend : k = l.length
    · subst hend
      go_wp2_with fail
      go_ret
      exact ⟨rfl, rfl⟩
    · have hk' : k < l.length := by omega
      have hv : val (l.take k) < 256 ^ 7 := by
        have h1 := val_lt (l.take k)
        have h2 : (l.take k).length ≤ 7 := by rw [List.length_take]; omega
        exact Nat.lt_of_lt_of_le h1 (Nat.pow_le_pow_right (by omega) h2)
      have HV := hid hv
      clear hv
      go_wp2_with fail
      refine ⟨⟨k + 1, by go_num, by omega, ?_⟩, by simp [intOf]; omega⟩
      have hb := UInt8.toNat_lt (l[k])
      have hv := HV.out
      rw [val_take l k hk', show l.getD k 0 = l[k] by simp [List.getD_eq_getElem?_getD, hk']]
      congr 1
      have hx : ∀ h, ((bs l)[k]'h) = l[k] := fun h => rfl
      simp only [IntKind.wrap_u64, hx]
      omega

theorem many_r (w : World) (r : List UInt8) (hr : r.length ≤ 1000000) :
    Calls Tryz.prog 39 #[.string (bs r)] w fun e w' => e = .returned (.int .i64 (many r.length)) ∧ w = w' := by
  have HM := hid (show many r.length = max 1 ((r.length + 47) / 48) from rfl)
  go_enter Tryz.func39, Tryz.ntmps39
  go_wp2_with fail
  go_loop [3] (fun v => ∃ k : Nat, v = .int .i64 k ∧ 1 ≤ k ∧ k ≤ many r.length) (fun v => many r.length - (intOf v).toNat)
  case atStart => exact ⟨1, rfl, Nat.le_refl _, many_pos _⟩
  case round =>
    obtain ⟨k, rfl, hk1, hk⟩ := hrel
    by_cases hend : k = many r.length
    · have h2 : ¬ (48 * (k : Int) < r.length) := by have := HM.out; omega
      have HE := hid hend
      have hk3 : k ≤ 30000 := by have := HM.out; omega
      clear hend hk
      go_wp2_with fail
      go_ret
      exact ⟨by rw [← HE.out]; rfl, rfl⟩
    · have h2 : 48 * (k : Int) < r.length := by have := HM.out; omega
      have hk2 : k + 1 ≤ many r.length := by omega
      have hk3 : k ≤ 30000 := by have := HM.out; omega
      have HK2 := hid hk2
      clear hend hk2 hk
      go_wp2_with fail
      refine ⟨⟨k + 1, by go_num, by omega, HK2.out⟩, by have := HK2.out; simp [intOf]; omega⟩

theorem rd_set (n k j : Nat) (hj : j < k) : (bytesOf (List.replicate (k - j) 0 ++ be j n)).toArray.setIfInBounds (k - 1 - j) (.int .u8 (((n / 256 ^ j : Nat) : Int) % 256)) = (bytesOf (List.replicate (k - (j + 1)) 0 ++ be (j + 1) n)).toArray := by
  obtain ⟨m, hm⟩ : ∃ m, k - j = m + 1 := ⟨k - j - 1, by omega⟩
  have hm2 : k - (j + 1) = m := by omega
  have hm3 : k - 1 - j = m := by omega
  have e : Value.int .u8 (((n / 256 ^ j : Nat) : Int) % 256) = .int .u8 (((UInt8.ofNat (n / 256 ^ j)).toNat : Nat) : Int) := by
    congr 1
  rw [e, hm, hm2, hm3, be_head]
  apply Array.ext'
  rw [List.replicate_succ']
  simp only [List.setIfInBounds_toArray, bytesOf, List.map_append, List.map_cons, List.map_nil, List.append_assoc, List.map_replicate]
  rw [List.set_append_right _ _ (by simp)]
  simp

set_option maxHeartbeats 4000000 in
set_option maxRecDepth 100000 in
theorem rbig_c (w : World) (n k : Nat) (K : Int) (hK : K = (k : Int)) (hn : n ≤ 9223372036854775807) (hk : k ≤ 8) :
    Calls Tryz.prog 64 #[.int .i64 n, .int .i64 K] w fun e w' => e = .returned (.string (bs (be k n))) ∧ Fr (fun _ => False) w w' := by
  subst hK
  have hmk := mk_row k (by omega) w
  have hW := hid (MapKept.heap_alloc w (.cells (bytesOf (List.replicate k 0)).toArray 5)).1
  have hF0 := hid (show Fr (fun _ => False) w (w.alloc (.cells (bytesOf (List.replicate k 0)).toArray 5)) from (Fr.refl _ w).alloc _)
  go_enter Tryz.func64, Tryz.ntmps64
  go_wp2_with fail
  go_loopw [0, 6] (fun v i wr => ∃ j : Nat, v = .int .i64 ((n / 256 ^ j : Nat) : Int) ∧ i = .int .i64 ((k : Int) - 1 - j) ∧ j ≤ k ∧ Hid (wr.heap[w.heap.size]? = some (.cells (bytesOf (List.replicate (k - j) 0 ++ be j n)).toArray 5)) ∧ Hid (Fr (fun _ => False) w wr)) (fun _ i _ => (intOf i + 1).toNat)
  case atStart => exact ⟨0, by simp, by simp, by omega, hid (by have := hW.out; simpa [be] using this), hF0⟩
  case round =>
    obtain ⟨j, rfl, rfl, hj, HR, HF⟩ := hrel
    by_cases hend : j = k
    · subst hend
      have hback := row_str (be j n) j w.heap.size (0, 0) wr (by have := HR.out; simpa using this)
      rw [be_length] at hback
      go_wp2
      go_ret
      exact ⟨rfl, HF.out⟩
    · have hj' : j < k := by omega
      obtain ⟨N, hN⟩ : ∃ N, N = n / 256 ^ j := ⟨_, rfl⟩
      have hN2 : N ≤ 9223372036854775807 := by rw [hN]; exact Nat.le_trans (Nat.div_le_self _ _) hn
      have hset := rd_set n k j hj'
      rw [← hN] at hset ⊢
      have hN3 : N / 256 = n / 256 ^ (j + 1) := by rw [hN, Nat.div_div_eq_div_mul, Nat.pow_succ]
      have cc : wr.cell? ⟨w.heap.size, k - 1 - j, none⟩ = some (.int .u8 0) := by
        rw [cell_at HR.out]
        obtain ⟨m, hm⟩ : ∃ m, k - j = m + 1 := ⟨k - j - 1, by omega⟩
        have hm3 : k - 1 - j = m := by omega
        rw [hm, hm3, List.replicate_succ']
        simp [bytesOf]
      have ff : wr.frozen? ⟨w.heap.size, k - 1 - j, none⟩ = false := frozen_at HR.out _
      have HSET := hid hset
      have HN3 := hid hN3
      have e2 : (k : Int) - 1 - j = ((k - 1 - j : Nat) : Int) := by omega
      clear hset hN3 hN hend
      rw [e2]
      go_wp2
      refine ⟨⟨j + 1, by rw [← HN3.out]; rfl, by congr 1; omega, by omega, hid ?_, hid ?_⟩, ?_⟩
      · rw [set_at HR.out, HSET.out]
      · exact HF.out.setCell _ (fun h => by simp at h) _
      · simp only [intOf]; omega

/-- Noughts onto an owned row. -/
theorem run_append_own_zeros (w : World) (base : Nat) (g n cap : Nat) (xs : List Value) (hown : w.ownsRow base 5 1 (.slice (some ⟨g, 0, none⟩) n cap) n xs) (k : Nat) (hn : n ≤ 1000000) (hk : k ≤ 1000000) (hbase : base ≤ w.heap.size) (ty : TypeId) :
    ∃ v' w', (Builtin.append_ #[54, 3] ty #[.slice (some ⟨g, 0, none⟩) n cap, .int .i64 (k : Int)]).run Tryz.prog w = .ok v' w' ∧ w'.ownsRow base 5 1 v' (n + k) (xs ++ bytesOf (List.replicate k 0)) ∧ w.grownBy w' (some g) := by
  obtain ⟨i0, hi, hz0, hz1, hz2⟩ := info_parts (show (Tryz.prog.info? 5).map (fun i => (i.zero, i.size, i.bytes)) = some (some (.int .u8 0), 1, 1) by kernel_rfl)
  have hxl : xs.length = n := by simpa using hown.1
  have hbl : (bytesOf (List.replicate k (0 : UInt8))).length = k := by simp [bytesOf]
  have hlen : (xs ++ bytesOf (List.replicate k 0)).length = (n + k) * 1 := by rw [List.length_append, hxl, hbl, Nat.mul_one]
  have hw : IntKind.i64.wrap (k : Int) = k := by rw [IntKind.wrap_i64]; omega
  have hneg : ¬ ((k : Int) < 0) := by omega
  have h48 : ¬ (281474976710656 < (k : Int)) := by omega
  have hzc : (Builtin.zeroCells (Value.int .u8 0).cells k) = (bytesOf (List.replicate k 0)).toArray := by
    apply Array.ext
    · simp [Builtin.zeroCells, bytesOf, Value.cells]
    · intro i h1 h2
      have e0 : i % 1 = 0 := by omega
      simp [Builtin.zeroCells, bytesOf, Value.cells, e0]
  rcases hown.2 with ⟨h0, _⟩ | ⟨g', cap', cur, h0, hbg, hg, hnc, hcm, hcs, htake⟩
  · cases h0
  · cases h0
    by_cases hroom : n + k ≤ cap
    · have hcs' : cur.size = cap := by simpa using hcs
      have hst := run_storeCells_at Tryz.prog g n 5 (bytesOf (List.replicate k 0)) 0 cur w hg (by rw [hbl]; omega) (by
        intro v hv
        simp only [bytesOf, List.mem_map] at hv
        obtain ⟨b, _, rfl⟩ := hv
        rfl)
      simp only [Nat.add_zero, hbl] at hst
      refine ⟨.slice (some ⟨g, 0, none⟩) (n + k) cap, w.setRow g (cur.toList.take n ++ bytesOf (List.replicate k 0) ++ cur.toList.drop (n + k)).toArray, ?_, ⟨hlen, .inr ⟨g, cap, _, rfl, hbg, setRow_heap w g cur _ _ _ hg, hroom, hcm, ?_, ?_⟩⟩, ⟨rfl, rfl, rfl, by simp, fun j _ hj => setRow_other w g j _ (fun e => hj (by simp [e]))⟩⟩
      · by_cases hk0 : k = 0
        · subst hk0
          have e : (w.setRow g (List.take n cur.toList ++ bytesOf (List.replicate 0 0) ++ List.drop (n + 0) cur.toList).toArray) = w := by
            have := setRow_self w g cur _ _ hg
            simpa [bytesOf] using this
          rw [e]
          simp [Builtin.append_, run_underlying Tryz.underlying54, run_underlying Tryz.underlying3, sizeOf, typeInfo, hi, hz1, hz2, asInt, asIntOf, IntKind.wrap_i64, hnc, storeCells]
        · simp [Builtin.append_, run_underlying Tryz.underlying54, run_underlying Tryz.underlying3, sizeOf, typeInfo, zeroValue, hi, hz0, hz1, hz2, asInt, asIntOf, hw, hneg, h48, hk0, hroom, hzc, Addr.add_lit, hst]
      · simp only [List.size_toArray, List.length_append, List.length_take, List.length_drop, Array.length_toList, hbl]
        omega
      · have ht' : cur.toList.take n = xs := by simpa using htake
        rw [ht', ← hlen]
        exact List.take_left
    · have hold : (Builtin.firstCells i0.size n (.slice (some ⟨g, 0, none⟩) n cap)).run Tryz.prog w.drew = .ok xs.toArray w.drew := by
        have hcells : ∀ j v, xs[j]? = some v → w.drew.cell? ((⟨g, 0, none⟩ : Addr).add j) = some v := hown.drew.cells (g := g) rfl
        exact run_firstCells_some (P := Tryz.prog) w.drew i0.size n ⟨g, 0, none⟩ n cap xs (by rw [hz1]; simpa using hxl) hcells
      have hge := grownCap_ge w (n + k) cap 5
      have hcm2 : grownCap w (n + k) cap 5 ≤ maxLen := grownCap_le_maxLen w (n + k) cap 5 (by unfold maxLen; omega)
      have hr := Lib.run_append_grow_zeros (P := Tryz.prog) w 54 3 ty 5 i0 (.int .u8 0) .i64 .i64 Tryz.underlying54 Tryz.underlying3 hi hz0 (some ⟨g, 0, none⟩) n cap xs hold k (by omega) (by rw [hz1]; decide) (by omega) (by omega) (by rw [hz2]; omega) (by rw [hz2]; exact growslice_fits (by omega) (by omega))
      refine ⟨_, _, hr, ⟨hlen, .inr ⟨w.heap.size, _, _, rfl, hbase, heap_alloc_new w.drew _, hge, hcm2, ?_, ?_⟩⟩, ⟨rfl, rfl, rfl, by simp, fun j hj _ => heap_alloc_old w.drew _ hj⟩⟩
      · have hz1' : (Value.int IntKind.u8 0).cells.size = 1 := rfl
        simp only [Array.size_append, List.size_toArray, size_zeroCells, hz1', hxl, hzc, hbl]
        omega
      · rw [hzc]
        simp only [Array.toList_append, List.append_assoc]
        rw [← List.append_assoc, ← hlen]
        exact List.take_left

end Go.Proofs.YthmnchemfigneaaGreat.D
