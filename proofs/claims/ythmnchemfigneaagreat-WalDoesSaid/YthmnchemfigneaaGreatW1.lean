/-
  The log's small functions: many, small, big. No condition beyond the sizes that are named.
-/
import Derived.Test.YthmnchemfigneaaGreatW0
import Derived.Test.YthmnchemfigneaaGreatR9
import Derived.Lib.AppendZeros
import Derived.Lib.AppendStr
import Derived.Laws.Bits64
import Derived.Laws.AppendOwn
namespace Go.Proofs.YthmnchemfigneaaGreat.D
open Go.RowKit Go.Maps Go.Shelf
set_option linter.unusedVariables false
set_option linter.unusedSimpArgs false

theorem many_c (w : World) (n : Nat) (hn : n ≤ 9223372036854775000) :
    Calls Tryz.prog 35 #[.int .i64 n] w fun e w' => e = .returned (.int .i64 (many n)) ∧ w' = w := by
  have hmax : ∀ w, (Builtin.max_ #[3, 3] 3 #[.int .i64 1, .int .i64 (((n : Int) + 48 - 1) / 48)]).run Tryz.prog w = .ok (.int .i64 (many n)) w := by
    intro w
    rw [run_max_int2]
    congr 2
    unfold many
    split <;> omega
  go_enter Tryz.func35, Tryz.ntmps35
  go_wp2_with fail
  go_ret
  exact ⟨rfl, rfl⟩

theorem val_take (l : List UInt8) (k : Nat) (hk : k < l.length) : val (l.take (k + 1)) = val (l.take k) * 256 + (l.getD k 0).toNat := by
  rw [List.take_add_one, List.getElem?_eq_getElem hk]
  simp only [Option.toList, val_snoc]
  simp [List.getD_eq_getElem?_getD, hk]

theorem or_byte (x b : Nat) (hb : b < 256) : (x * 256) ||| b = x * 256 + b := by
  have h := Nat.shiftLeft_add_eq_or_of_lt (i := 8) (b := b) (by omega) x
  rw [Nat.shiftLeft_eq] at h
  exact h.symm

theorem bits_or_u64 (a b : Nat) (ha : a < 18446744073709551616) (hb : b < 18446744073709551616) :
    bits .or .u64 (a : Int) (b : Int) = ((a ||| b : Nat) : Int) := by
  have hx : a ||| b < 2 ^ 64 := Nat.or_lt_two_pow (by omega) (by omega)
  have h1 : (BitVec.ofInt 64 (a : Int)).toNat = a := by
    rw [BitVec.ofInt_natCast, BitVec.toNat_ofNat]; exact Nat.mod_eq_of_lt (by omega)
  have h2 : (BitVec.ofInt 64 (b : Int)).toNat = b := by
    rw [BitVec.ofInt_natCast, BitVec.toNat_ofNat]; exact Nat.mod_eq_of_lt (by omega)
  show IntKind.u64.wrap ((BitVec.ofInt 64 (a : Int) ||| BitVec.ofInt 64 (b : Int)).toNat : Int) = _
  rw [BitVec.toNat_or, h1, h2, IntKind.wrap_u64]
  omega

theorem or_step (x b : Nat) (hx : x < 256 ^ 7) (hb : b < 256) : bits BinOp.or IntKind.u64 ((x : Int) * 256) (IntKind.u64.wrap (b : Int)) = ((x * 256 + b : Nat) : Int) := by
  have e1 : ((x : Int) * 256) = ((x * 256 : Nat) : Int) := by omega
  have e2 : IntKind.u64.wrap (b : Int) = (b : Int) := by rw [IntKind.wrap_u64]; omega
  rw [e1, e2, bits_or_u64 _ _ (by omega) (by omega), or_byte x b hb]

set_option maxHeartbeats 4000000 in
set_option maxRecDepth 100000 in
theorem small_c (w : World) (l : List UInt8) (hl : l.length ≤ 8) :
    Calls Tryz.prog 59 #[.string (bs l)] w fun e w' => e = .returned (.int .u64 (val l)) ∧ w' = w := by
  go_enter Tryz.func59, Tryz.ntmps59
  go_wp2_with fail
  go_loop [6, 2] (fun v v2 => ∃ k : Nat, v = .int .i64 k ∧ k ≤ l.length ∧ v2 = .int .u64 (val (l.take k))) (fun v _ => l.length - (intOf v).toNat)
  case atStart => exact ⟨0, rfl, by omega, rfl⟩
  case round =>
    obtain ⟨k, rfl, hk, rfl⟩ := hrel
    by_cases hend : k = l.length
    · subst hend
      go_wp2_with fail
      go_ret
      exact ⟨rfl, rfl⟩
    · have hk' : k < l.length := by omega
      have hz : (bs l).size = l.length := by simp [bs, ByteArray.size]
      have hkz : k < (bs l).size := by omega
      have hat := at_bs l k hkz
      have hv : val (l.take k) < 256 ^ 7 := by
        have h1 := val_lt (l.take k)
        have h2 : (l.take k).length ≤ 7 := by rw [List.length_take]; omega
        exact Nat.lt_of_lt_of_le h1 (Nat.pow_le_pow_right (by omega) h2)
      have HV := hid hv
      go_wp2_with fail
      refine ⟨⟨k + 1, by go_num, by omega, ?_⟩, by simp [intOf]; omega⟩
      rw [show l[k] = l.getD k 0 by simp [List.getD_eq_getElem?_getD, hk'], or_step _ _ HV.out (UInt8.toNat_lt _), val_take l k hk']

/-! ### a buffer of known room: noughts behind what it holds -/
def bufRow (cap : Nat) (l : List UInt8) : Array Value := (bytesOf (l ++ List.replicate (cap - l.length) 0)).toArray
/-- Block g is a buffer of cap bytes that holds l. -/
def Buf (w : World) (g cap : Nat) (l : List UInt8) : Prop := w.heap[g]? = some (.cells (bufRow cap l) 5) ∧ l.length ≤ cap

theorem bufRow_take (cap : Nat) (l : List UInt8) : (bufRow cap l).toList.take l.length = bytesOf l := by
  simp [bufRow, bytesOf, List.take_append_of_le_length]
theorem bufRow_size (cap : Nat) (l : List UInt8) (h : l.length ≤ cap) : (bufRow cap l).size = cap := by
  simp [bufRow, bytesOf]; omega
theorem bufRow_put (cap : Nat) (l m : List UInt8) (h : l.length + m.length ≤ cap) : ((bufRow cap l).toList.take l.length ++ bytesOf m ++ (bufRow cap l).toList.drop (l.length + m.length)).toArray = bufRow cap (l ++ m) := by
  rw [bufRow_take]
  unfold bufRow
  congr 1
  simp only [bytesOf, List.map_append, List.map_replicate, List.append_assoc, List.length_append]
  rw [List.drop_append, List.drop_of_length_le (by simp), List.nil_append, List.drop_replicate, List.length_map]
  congr 3
  omega

theorem Buf.keep {S : Nat → Prop} {w w' : World} {g cap : Nat} {l : List UInt8} (h : Buf w g cap l) (hf : Fr S w w') (hn : ¬ S g) : Buf w' g cap l := ⟨hf.at h.1 hn, h.2⟩
theorem Buf.set {w : World} {g cap : Nat} {l : List UInt8} (h : Buf w g cap l) (m : List UInt8) (hm : l.length + m.length ≤ cap) :
    Buf (w.setRow g ((bufRow cap l).toList.take l.length ++ bytesOf m ++ (bufRow cap l).toList.drop (l.length + m.length)).toArray) g cap (l ++ m) := by
  refine ⟨(setRow_heap w g (bufRow cap l) _ _ _ h.1).trans ?_, by simpa using hm⟩
  rw [bufRow_put cap l m hm]
theorem fr_setRow (w : World) (g : Nat) (row : Array Value) : Fr (· = g) w (w.setRow g row) := by
  refine ⟨rfl, rfl, rfl, by simp [World.setRow], fun i hi hn => ?_⟩
  simp only [World.setRow, Array.getElem?_modify]
  rw [if_neg (fun e => hn e.symm)]

theorem strCells_bytes (m : List UInt8) : Lib.strCells (bs m) = bytesOf m := rfl

/-- A string onto a buffer that has room. -/
theorem buf_str {w : World} {g cap : Nat} {l : List UInt8} (h : Buf w g cap l) (m : List UInt8) (hm : l.length + m.length ≤ cap) (ty : TypeId) :
    ∃ w', (Builtin.append_ #[54, 9] ty #[.slice (some ⟨g, 0, none⟩) l.length cap, .string (bs m)]).run Tryz.prog w = .ok (.slice (some ⟨g, 0, none⟩) (l.length + m.length : Nat) cap) w' ∧ Buf w' g cap (l ++ m) ∧ Fr (· = g) w w' := by
  obtain ⟨i0, hi, hz0, hz1, hz2⟩ := info_parts (show (Tryz.prog.info? 5).map (fun i => (i.zero, i.size, i.bytes)) = some (some (.int .u8 0), 1, 1) by kernel_rfl)
  have hz : (bs m).size = m.length := by simp [bs, ByteArray.size]
  have hr := Lib.run_append_room_string (P := Tryz.prog) w 54 9 ty 5 i0 Tryz.underlying54 Tryz.underlying9 hi hz1 g l.length cap (bufRow cap l) h.1 (bs m) (by rw [hz]; exact hm) (by rw [hz, bufRow_size cap l h.2]; exact hm)
  rw [hz, strCells_bytes] at hr
  exact ⟨_, hr, h.set m hm, fr_setRow _ _ _⟩

/-- Noughts onto a buffer that has room. -/
theorem buf_zeros {w : World} {g cap : Nat} {l : List UInt8} (h : Buf w g cap l) (k : Nat) (hm : l.length + k ≤ cap) (hc : k ≤ 1000000) (ty : TypeId) :
    ∃ w', (Builtin.append_ #[54, 3] ty #[.slice (some ⟨g, 0, none⟩) l.length cap, .int .i64 (k : Int)]).run Tryz.prog w = .ok (.slice (some ⟨g, 0, none⟩) (l.length + k : Nat) cap) w' ∧ Buf w' g cap (l ++ List.replicate k 0) ∧ Fr (· = g) w w' := by
  obtain ⟨i0, hi, hz0, hz1, hz2⟩ := info_parts (show (Tryz.prog.info? 5).map (fun i => (i.zero, i.size, i.bytes)) = some (some (.int .u8 0), 1, 1) by kernel_rfl)
  have hl : (List.replicate k (0 : UInt8)).length = k := List.length_replicate
  have hst := run_storeCells_at Tryz.prog g l.length 5 (bytesOf (List.replicate k 0)) 0 (bufRow cap l) w h.1 (by rw [bufRow_size cap l h.2]; simp [bytesOf]; exact hm) (by
    intro v hv
    simp only [bytesOf, List.mem_map] at hv
    obtain ⟨b, _, rfl⟩ := hv
    rfl)
  have hbl : (bytesOf (List.replicate k (0 : UInt8))).length = k := by simp [bytesOf]
  simp only [Nat.add_zero, hbl] at hst
  have hw : IntKind.i64.wrap (k : Int) = k := by rw [IntKind.wrap_i64]; omega
  have hneg : ¬ ((k : Int) < 0) := by omega
  have h48 : ¬ (281474976710656 < (k : Int)) := by omega
  have hzc : (Builtin.zeroCells (Value.int .u8 0).cells k) = (bytesOf (List.replicate k 0)).toArray := by
    apply Array.ext
    · simp [Builtin.zeroCells, bytesOf, Value.cells]
    · intro i h1 h2
      have e0 : i % 1 = 0 := by omega
      simp [Builtin.zeroCells, bytesOf, Value.cells, e0]
  have hset := h.set (List.replicate k 0) (by rw [hl]; exact hm)
  rw [hl] at hset
  refine ⟨_, ?_, hset, fr_setRow _ _ _⟩
  by_cases hk0 : k = 0
  · subst hk0
    have e : (w.setRow g (List.take l.length (bufRow cap l).toList ++ bytesOf (List.replicate 0 0) ++ List.drop (l.length + 0) (bufRow cap l).toList).toArray) = w := by
      have := setRow_self w g (bufRow cap l) _ _ h.1
      simpa [bytesOf] using this
    rw [e]
    have h2 := h.2
    simp [Builtin.append_, run_underlying Tryz.underlying54, run_underlying Tryz.underlying3, sizeOf, typeInfo, hi, hz1, hz2, asInt, asIntOf, IntKind.wrap_i64, h2, storeCells]
  · simp [Builtin.append_, run_underlying Tryz.underlying54, run_underlying Tryz.underlying3, sizeOf, typeInfo, zeroValue, hi, hz0, hz1, hz2, asInt, asIntOf, hw, hneg, h48, hk0, hm, hzc, Addr.add_lit, hst]

/-- A row of bytes onto a buffer that has room: here of one. -/
theorem buf_row {w : World} {g cap : Nat} {l : List UInt8} (h : Buf w g cap l) (b : Nat) (c : UInt8) (hb : w.heap[b]? = some (.cells #[.int .u8 (c.toNat : Int)] 5)) (hm : l.length + 1 ≤ cap) (ty : TypeId) :
    ∃ w', (Builtin.append_ #[54, 54] ty #[.slice (some ⟨g, 0, none⟩) l.length cap, .slice (some ⟨b, 0, none⟩) 1 1]).run Tryz.prog w = .ok (.slice (some ⟨g, 0, none⟩) (l.length + 1 : Nat) cap) w' ∧ Buf w' g cap (l ++ [c]) ∧ Fr (· = g) w w' := by
  obtain ⟨i0, hi, hz0, hz1, hz2⟩ := info_parts (show (Tryz.prog.info? 5).map (fun i => (i.zero, i.size, i.bytes)) = some (some (.int .u8 0), 1, 1) by kernel_rfl)
  have hr := run_append_room (P := Tryz.prog) w 54 ty 5 i0 Tryz.underlying54 hi g l.length cap (bufRow cap l) h.1 ⟨b, 0, none⟩ 1 1 (bytesOf [c]) (by rw [hz1]; rfl) (by
    intro j u hj
    have hj0 : j = 0 := by have := (List.getElem?_eq_some_iff.1 hj).1; simpa [bytesOf] using this
    subst hj0
    rw [Addr.add_lit, World.cell?, hb]
    simpa [bytesOf] using hj) (by
    intro v hv
    simp only [bytesOf, List.mem_map] at hv
    obtain ⟨b, _, rfl⟩ := hv
    rfl) hm (by rw [bufRow_size cap l h.2, hz1]; simpa [bytesOf] using hm)
  rw [hz1, Nat.mul_one] at hr
  exact ⟨_, hr, h.set [c] hm, fr_setRow _ _ _⟩

theorem buf_new (w : World) (cap : Nat) (hc : cap ≤ 1000000) :
    (Instr.makeSlice 54 (.int .i64 0) (.int .i64 (cap : Int))).run Tryz.prog w = .ok (.slice (some ⟨w.heap.size, 0, none⟩) 0 cap) (w.alloc (.cells (bufRow cap []) 5)) ∧ Buf (w.alloc (.cells (bufRow cap []) 5)) w.heap.size cap [] := by
  obtain ⟨i0, hi, hz0, hz1, hz2⟩ := info_parts (show (Tryz.prog.info? 5).map (fun i => (i.zero, i.size, i.bytes)) = some (some (.int .u8 0), 1, 1) by kernel_rfl)
  have hr := run_make (P := Tryz.prog) w 54 5 i0 (.int .u8 0) Tryz.underlying54 hi hz0 .i64 .i64 0 cap (Int.le_refl _) (by omega) (by rw [hz2]; omega) (by omega)
  have e : madeCells (Value.int .u8 0).cells (((cap : Int)).toNat * i0.size) = bufRow cap [] := by
    rw [hz1]
    apply Array.ext
    · simp [madeCells, bufRow, bytesOf]
    · intro i h1 h2
      have e0 : i % 1 = 0 := by omega
      simp [madeCells, bufRow, bytesOf, Value.cells, e0]
  rw [e] at hr
  simp only [Int.toNat_zero, Int.toNat_natCast] at hr
  exact ⟨hr, (MapKept.heap_alloc w _).1, Nat.zero_le _⟩

theorem be_get : ∀ (k n j : Nat), j < k → (be k n)[j]? = some (UInt8.ofNat (n / 256 ^ (k - 1 - j)))
  | 0, n, j, h => by omega
  | k + 1, n, j, h => by
    rw [be]
    by_cases e : j = k
    · subst e
      rw [List.getElem?_append_right (by rw [be_length]; omega), be_length]
      simp
    · rw [List.getElem?_append_left (by rw [be_length]; omega), be_get k _ j (by omega), Nat.div_div_eq_div_mul]
      congr 2
      have : k + 1 - 1 - j = (k - 1 - j) + 1 := by omega
      rw [this, Nat.pow_succ, Nat.mul_comm]
theorem be_take_succ (k n j : Nat) (h : j < k) : (be k n).take (j + 1) = (be k n).take j ++ [UInt8.ofNat (n / 256 ^ (k - 1 - j))] := by
  rw [List.take_add_one, be_get k n j h]
  rfl

set_option maxHeartbeats 4000000 in
set_option maxRecDepth 100000 in
theorem big_c (w : World) (g cap : Nat) (l : List UInt8) (n k : Nat) (ho : Buf w g cap l) (hn : n ≤ 9223372036854775807) (hk : k ≤ 8) (hl : l.length + k ≤ cap) (hcap : cap ≤ 1000000) :
    Calls Tryz.prog 63 #[.slice (some ⟨g, 0, none⟩) l.length cap, .int .i64 n, .int .i64 k] w fun e w' => e = .returned (.slice (some ⟨g, 0, none⟩) (l.length + k : Nat) cap) ∧ Buf w' g cap (l ++ be k n) ∧ Fr (· = g) w w' := by
  have HO := hid ho
  clear ho
  go_enter Tryz.func63, Tryz.ntmps63
  go_wp2_with fail
  go_loopw [0, 7] (fun v i wr => ∃ (j : Nat), i = .int .i64 ((k : Int) - 1 - j) ∧ j ≤ k ∧ v = .slice (some ⟨g, 0, none⟩) (l.length + j) cap ∧
      Hid (Buf wr g cap (l ++ (be k n).take j)) ∧ Hid (Fr (· = g) w wr)) (fun _ i _ => (intOf i + 1).toNat)
  case atStart => exact ⟨0, by simp, by omega, by simp, hid (by simpa using HO.out), hid (Fr.refl _ _)⟩
  case round =>
    obtain ⟨j, rfl, hj, rfl, HO, HW⟩ := hrel
    have hjl : ((be k n).take j).length = j := by rw [List.length_take, be_length]; omega
    by_cases hend : j = k
    · subst hend
      go_wp2_with fail
      go_ret
      refine ⟨rfl, ?_, HW.out⟩
      have := HO.out
      rwa [List.take_of_length_le (by rw [be_length]; omega)] at this
    · have hj' : j < k := by omega
      have ec : (((UInt8.ofNat (n / 256 ^ (k - 1 - j))).toNat : Nat) : Int) = (n : Int) / 2 ^ (8 * (k - 1 - j)) % 256 := by
        rw [UInt8.toNat_ofNat']
        have : (256 : Nat) ^ (k - 1 - j) = 2 ^ (8 * (k - 1 - j)) := by rw [Nat.pow_mul]
        rw [this]
        simp
      have hB : Buf (wr.alloc (.cells #[.int .u8 ((n : Int) / 2 ^ (8 * (k - 1 - j)) % 256)] 5)) g cap (l ++ (be k n).take j) := HO.out.keep ((Fr.refl (fun _ => False) wr).alloc _) (fun f => f)
      obtain ⟨w2, hrun, hB2, hF2⟩ := buf_row hB wr.heap.size (UInt8.ofNat (n / 256 ^ (k - 1 - j))) (by rw [ec]; exact (MapKept.heap_alloc wr _).1) (by rw [List.length_append, hjl]; omega) 54
      rw [List.length_append, hjl] at hrun
      have HR := hid hrun
      have HB2 := hid hB2
      have HF2 := hid ((fr_no ((Fr.refl (fun _ => False) wr).alloc (.cells #[.int .u8 ((n : Int) / 2 ^ (8 * (k - 1 - j)) % 256)] 5))).trans hF2 (fun _ _ e => e))
      clear hrun hB2 hB ec hend
      go_wp2_with (at_builtin; refine Lib.wpList_append_run _ rfl _ _ _ _ rfl _ _ rfl rfl _ _ HR.out ?_)
      refine ⟨⟨j + 1, by congr 1; omega, by omega, by congr 1, hid ?_, hid ?_⟩, ?_⟩
      · rw [be_take_succ k n j hj', ← List.append_assoc]
        exact HB2.out
      · exact HW.out.trans HF2.out (fun _ _ e => e)
      · simp [intOf]; omega

end Go.Proofs.YthmnchemfigneaaGreat.D
