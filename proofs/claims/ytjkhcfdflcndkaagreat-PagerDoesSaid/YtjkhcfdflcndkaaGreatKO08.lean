/-
  A pager reads a number: small. No condition beyond the sizes that are named.
-/
import Derived.Test.YtjkhcfdflcndkaaGreatKO07
import Derived.Test.YtjkhcfdflcndkaaGreatKO05
import Derived.Lib.AppendZeros
import Derived.Lib.AppendStr
import Derived.Laws.Bits64
import Derived.Laws.AppendOwn
import Derived.Lib.AppendZerosOnto
import Derived.Lib.SlBytesConst
import Derived.Lib.SmallJoins
import Derived.Outline
import Derived.Test.YtjkhcfdflcndkaaGreatKO06
import Derived.Test.YtjkhcfdflcndkaaGreatKO02
namespace Go.Proofs.YtjkhcfdflcndkaaGreat.D
open Go.RowKit Go.Maps Go.Shelf
set_option linter.unusedVariables false
set_option linter.unusedSimpArgs false

theorem val_take (l : List UInt8) (k : Nat) (hk : k < l.length) : val (l.take (k + 1)) = val (l.take k) * 256 + (l.getD k 0).toNat := by
  rw [List.take_add_one, List.getElem?_eq_getElem hk]
  simp only [Option.toList, val_snoc]
  simp [List.getD_eq_getElem?_getD, hk]

theorem or_byte (x b : Nat) (hb : b < 256) : (x * 256) ||| b = x * 256 + b := by
  have h := Nat.shiftLeft_add_eq_or_of_lt (i := 8) (b := b) (by omega) x
  rw [Nat.shiftLeft_eq] at h
  exact h.symm

theorem bits_or_u64 (a b : Nat) (ha : a < 18446744073709551616) (hb : b < 18446744073709551616) :
    bits .or .u64 (a : Int) (b : Int) = ((a ||| b : Nat) : Int) := by
  have hx : a ||| b < 2 ^ 64 := Nat.or_lt_two_pow (by omega) (by omega)
  have h1 : (BitVec.ofInt 64 (a : Int)).toNat = a := by
    rw [BitVec.ofInt_natCast, BitVec.toNat_ofNat]; exact Nat.mod_eq_of_lt (by omega)
  have h2 : (BitVec.ofInt 64 (b : Int)).toNat = b := by
    rw [BitVec.ofInt_natCast, BitVec.toNat_ofNat]; exact Nat.mod_eq_of_lt (by omega)
  show IntKind.u64.wrap ((BitVec.ofInt 64 (a : Int) ||| BitVec.ofInt 64 (b : Int)).toNat : Int) = _
  rw [BitVec.toNat_or, h1, h2, IntKind.wrap_u64]
  omega

theorem or_step (x b : Nat) (hx : x < 256 ^ 7) (hb : b < 256) : bits BinOp.or IntKind.u64 ((x : Int) * 256) (IntKind.u64.wrap (b : Int)) = ((x * 256 + b : Nat) : Int) := by
  have e1 : ((x : Int) * 256) = ((x * 256 : Nat) : Int) := by omega
  have e2 : IntKind.u64.wrap (b : Int) = (b : Int) := by rw [IntKind.wrap_u64]; omega
  rw [e1, e2, bits_or_u64 _ _ (by omega) (by omega), or_byte x b hb]

set_option maxHeartbeats 4000000 in
set_option maxRecDepth 100000 in
theorem small_c (w : World) (l : List UInt8) (hl : l.length ≤ 8) :
    Calls Tryz.prog 84 #[.string (bs l)] w fun e w' => e = .returned (.int .u64 (val l)) ∧ w' = w := by
  go_enter Tryz.func84, Tryz.ntmps84
  go_wp2_with fail
  go_loop [6, 2] (fun v v2 => ∃ k : Nat, v = .int .i64 k ∧ k ≤ l.length ∧ v2 = .int .u64 (val (l.take k))) (fun v _ => l.length - (intOf v).toNat)
  case atStart => exact ⟨0, rfl, by omega, rfl⟩
  case round =>
    obtain ⟨k, rfl, hk, rfl⟩ := hrel
    by_cases hend : k = l.length
    · subst hend
      go_wp2_with fail
      go_ret
      exact ⟨rfl, rfl⟩
    · have hk' : k < l.length := by omega
      have hz : (bs l).size = l.length := by simp [bs, ByteArray.size]
      have hkz : k < (bs l).size := by omega
      have hat := at_bs l k hkz
      have hv : val (l.take k) < 256 ^ 7 := by
        have h1 := val_lt (l.take k)
        have h2 : (l.take k).length ≤ 7 := by rw [List.length_take]; omega
        exact Nat.lt_of_lt_of_le h1 (Nat.pow_le_pow_right (by omega) h2)
      have HV := hid hv
      go_wp2_with fail
      refine ⟨⟨k + 1, by go_num, by omega, ?_⟩, by simp [intOf]; omega⟩
      rw [show l[k] = l.getD k 0 by simp [List.getD_eq_getElem?_getD, hk'], or_step _ _ HV.out (UInt8.toNat_lt _), val_take l k hk']

/-! ### a buffer of known room: noughts behind what it holds -/

end Go.Proofs.YtjkhcfdflcndkaaGreat.D

/-
  Rows of bytes that a call owns; a pager's big, head. No condition beyond the sizes that are named.
-/
namespace Go.Proofs.YtjkhcfdflcndkaaGreat.D
open Go.RowKit Go.Maps Go.Shelf
set_option linter.unusedVariables false
set_option linter.unusedSimpArgs false

/-- The value v is a row of these bytes that the call owns; its block lies from B on. -/
def BR (w : World) (B : Nat) (v : Value) (l : List UInt8) : Prop :=
  w.ownsRow B 5 1 v l.length (bytesOf l) ∨ ∃ g cur fz, v = .slice (some ⟨g, 0, none⟩) l.length l.length ∧ B ≤ g ∧ w.heap[g]? = some (.cells cur 5 fz) ∧ cur.toList = bytesOf l

theorem addr_add (b k : Nat) : (⟨b, 0, none⟩ : Addr).add k = ⟨b, k, none⟩ := by unfold Addr.add; split <;> simp_all

theorem BR.lt {w : World} {B : Nat} {v : Value} {l : List UInt8} (h : BR w B v l) : ∀ k, v.ownBlock = some k → B ≤ k ∧ k < w.heap.size := by
  rcases h with h | ⟨g, cur, fz, rfl, hb, hg, _⟩
  · exact h.lt
  · intro k hk
    simp [Value.ownBlock] at hk
    subst hk
    exact ⟨hb, lt_of_at hg⟩

theorem BR.keep {S : Nat → Prop} {w w' : World} {B : Nat} {v : Value} {l : List UInt8} (h : BR w B v l) (hf : Fr S w w') (hn : ∀ b, v.ownBlock = some b → ¬ S b) : BR w' B v l := by
  rcases h with h | ⟨g, cur, fz, rfl, hb, hg, hc⟩
  · left
    refine ⟨h.1, ?_⟩
    rcases h.2 with h0 | ⟨b', cap, cur, rfl, h1, h2, h3⟩
    · exact Or.inl h0
    · exact Or.inr ⟨b', cap, cur, rfl, h1, hf.at h2 (hn b' rfl), h3⟩
  · exact Or.inr ⟨g, cur, fz, rfl, hb, hf.at hg (hn g rfl), hc⟩
theorem BR.stay {w w' : World} {B : Nat} {v : Value} {l : List UInt8} (h : BR w B v l) (hf : Fr (fun _ => False) w w') : BR w' B v l := h.keep hf (fun _ _ f => f)

theorem bytes_len (l : List UInt8) : (bytesOf l).length = l.length := by simp [bytesOf]
theorem bytes_app (l m : List UInt8) : bytesOf (l ++ m) = bytesOf l ++ bytesOf m := by simp [bytesOf]
theorem bytes_one (l : List UInt8) : ∀ v ∈ bytesOf l, v.oneCell' = true := by
  intro v hv
  simp only [bytesOf, List.mem_map] at hv
  obtain ⟨b, _, rfl⟩ := hv
  rfl

/-- One more byte, out of a block of its own. -/
theorem BR.push {w : World} {B : Nat} {v : Value} {l : List UInt8} (h : BR w B v l) (hB : B ≤ w.heap.size) (hl : l.length ≤ 100000000) (b : Nat) (c : UInt8) (hb : w.heap[b]? = some (.cells #[.int .u8 (c.toNat : Int)] 5)) (ty : TypeId) :
    ∃ v' w', (Builtin.append_ #[60, 60] ty #[v, .slice (some ⟨b, 0, none⟩) 1 1]).run Tryz.prog w = .ok v' w' ∧ w'.ownsRow B 5 1 v' (l ++ [c]).length (bytesOf (l ++ [c])) ∧ w.grownBy w' v.ownBlock := by
  obtain ⟨i0, hi, hz0, hz1, hz2⟩ := info_parts (show (Tryz.prog.info? 5).map (fun i => (i.zero, i.size, i.bytes)) = some (some (.int .u8 0), 1, 1) by kernel_rfl)
  have hnews : ∀ j u, (bytesOf [c])[j]? = some u → w.cell? ((⟨b, 0, none⟩ : Addr).add j) = some u := by
    intro j u hj
    have hj0 : j = 0 := by have := (List.getElem?_eq_some_iff.1 hj).1; simpa [bytesOf] using this
    subst hj0
    rw [addr_add, World.cell?, hb]
    simpa [bytesOf] using hj
  have elen : (l ++ [c]).length = l.length + 1 := by simp
  rw [elen, bytes_app]
  rcases h with h | ⟨g, cur, fz, rfl, hbg, hg, hc⟩
  · obtain ⟨v', w', h1, h2, h3, _⟩ := run_append_own (P := Tryz.prog) w B 60 ty 5 i0 (.int .u8 0) 1 1 Tryz.underlying60 hi hz0 hz1 hz2 rfl (by decide) v l.length (bytesOf l) h ⟨b, 0, none⟩ 1 1 (bytesOf [c]) rfl hnews (bytes_one [c]) (by unfold maxLen; omega) (by omega) hB
    exact ⟨v', w', h1, h2, h3⟩
  · have hcs : cur.size = l.length := by rw [← Array.length_toList, hc, bytes_len]
    have hr := run_append_grow (P := Tryz.prog) (w := w) 60 ty 5 i0 (.int .u8 0) Tryz.underlying60 hi hz0 ⟨g, 0, none⟩ l.length l.length (bytesOf l) (by rw [hz1, bytes_len, Nat.mul_one]) (fun j u hj => by
      rw [addr_add, World.cell?, hg]
      rw [← hc] at hj
      simpa using hj) ⟨b, 0, none⟩ 1 1 (bytesOf [c]) (by rw [hz1]; rfl) hnews (by omega) (by omega) (by rw [hz2]; exact growslice_fits (by omega) (by omega))
    refine ⟨_, _, hr, ⟨by simp [bytes_len], Or.inr ⟨w.heap.size, _, _, rfl, hB, heap_alloc_new w.drew _, grownCap_ge _ _ _ _, grownCap_le_maxLen _ _ _ _ (by unfold maxLen; omega), ?_, ?_⟩⟩, ⟨rfl, rfl, rfl, by simp, fun j hj _ => Below.heap_alloc w.drew _ j hj⟩⟩
    · have hge := grownCap_ge w (l.length + 1) l.length 5
      have hzs : (Value.int IntKind.u8 0).cells.size = 1 := rfl
      simp only [Array.size_append, List.size_toArray, size_zeroCells, hzs, bytes_len, List.length_cons, List.length_nil]
      omega
    · have e : (l.length + 1) * 1 = (bytesOf l ++ bytesOf [c]).length := by simp [bytes_len]
      rw [e]
      simp only [Array.toList_append, List.append_assoc]
      rw [← List.append_assoc]
      exact List.take_left

/-- Noughts behind what a row holds. -/
theorem own_zeros {w : World} {B : Nat} {v : Value} {l : List UInt8} (h : w.ownsRow B 5 1 v l.length (bytesOf l)) (hB : B ≤ w.heap.size) (hl : l.length ≤ 100000000) (h0 : 0 < l.length) (k : Nat) (hk : 0 < k) (hk2 : k ≤ 1000000) (ty : TypeId) :
    ∃ v' w', (Builtin.append_ #[60, 3] ty #[v, .int .i64 (k : Int)]).run Tryz.prog w = .ok v' w' ∧ w'.ownsRow B 5 1 v' (l ++ List.replicate k 0).length (bytesOf (l ++ List.replicate k 0)) ∧ w.grownBy w' v.ownBlock := by
  obtain ⟨i0, hi, hz0, hz1, hz2⟩ := info_parts (show (Tryz.prog.info? 5).map (fun i => (i.zero, i.size, i.bytes)) = some (some (.int .u8 0), 1, 1) by kernel_rfl)
  have hzc : (Builtin.zeroCells (Value.int .u8 0).cells k) = (bytesOf (List.replicate k 0)).toArray := by
    apply Array.ext
    · simp [Builtin.zeroCells, bytesOf, Value.cells]
    · intro i h1 h2
      have e0 : i % 1 = 0 := by omega
      simp [Builtin.zeroCells, bytesOf, Value.cells, e0]
  have elen : (l ++ List.replicate k (0 : UInt8)).length = l.length + k := by simp
  rw [elen, bytes_app]
  rcases h.2 with ⟨rfl, h9⟩ | ⟨g, cap, cur, rfl, hbg, hg, hnc, hcm, hcs, htake⟩
  · omega
  · have hcs' : cur.size = cap := by simpa using hcs
    have htake' : cur.toList.take l.length = bytesOf l := by simpa using htake
    by_cases hroom : l.length + k ≤ cap
    · have hl2 : (List.replicate k (0 : UInt8)).length = k := List.length_replicate
      have hst := run_storeCells_at Tryz.prog g l.length 5 (bytesOf (List.replicate k 0)) 0 cur w hg (by rw [hcs', bytes_len, hl2]; omega) (bytes_one _)
      have hbl : (bytesOf (List.replicate k (0 : UInt8))).length = k := by simp [bytesOf]
      simp only [Nat.add_zero, hbl] at hst
      have hw : IntKind.i64.wrap (k : Int) = k := by rw [IntKind.wrap_i64]; omega
      have hneg : ¬ ((k : Int) < 0) := by omega
      have h48 : ¬ (281474976710656 < (k : Int)) := by omega
      have hk0 : k ≠ 0 := by omega
      refine ⟨.slice (some ⟨g, 0, none⟩) (l.length + k : Nat) cap, _, (by
        simp [Builtin.append_, run_underlying Tryz.underlying60, run_underlying Tryz.underlying3, sizeOf, typeInfo, zeroValue, hi, hz0, hz1, hz2, asInt, asIntOf, hw, hneg, h48, hk0, hroom, hzc, Addr.add_lit, hst]
        rfl), ⟨by simp [bytes_len], Or.inr ⟨g, cap, _, rfl, hbg, setRow_heap w g cur _ 5 _ hg, hroom, hcm, ?_, ?_⟩⟩, ⟨rfl, rfl, rfl, by simp, fun j _ hj => setRow_other w g j _ (fun e => hj (by simp [Value.ownBlock, e]))⟩⟩
      · simp only [List.size_toArray, List.length_append, List.length_take, List.length_drop, Array.length_toList, hbl]
        omega
      · have e : (l.length + k) * 1 = (bytesOf l ++ bytesOf (List.replicate k 0)).length := by simp [bytes_len]
        rw [htake', e]
        simp only []
        rw [← List.append_assoc]
        exact List.take_left
    · have hr := Lib.run_append_grow_zeros (P := Tryz.prog) w 60 3 ty 5 i0 (.int .u8 0) .i64 .i64 Tryz.underlying60 Tryz.underlying3 hi hz0 (some ⟨g, 0, none⟩) l.length cap (bytesOf l)
        (by
          have := run_firstCells_some (P := Tryz.prog) w.drew i0.size l.length ⟨g, 0, none⟩ l.length cap (bytesOf l) (by rw [hz1, bytes_len, Nat.mul_one]) (by simpa using h.cells (g := g) rfl)
          exact this) k hk (by omega) (by omega) (by omega) (by rw [hz2]; omega) (by rw [hz2]; exact growslice_fits (by omega) (by omega))
      refine ⟨_, _, hr, ⟨by simp [bytes_len], Or.inr ⟨w.heap.size, _, _, rfl, hB, heap_alloc_new w.drew _, grownCap_ge _ _ _ _, grownCap_le_maxLen _ _ _ _ (by unfold maxLen; omega), ?_, ?_⟩⟩, ⟨rfl, rfl, rfl, by simp, fun j hj _ => Below.heap_alloc w.drew _ j hj⟩⟩
      · have hge := grownCap_ge w (l.length + k) cap 5
        have hzs : (Value.int IntKind.u8 0).cells.size = 1 := rfl
        simp only [Array.size_append, List.size_toArray, size_zeroCells, hzs, bytes_len]
        omega
      · rw [hzc]
        have e : (l.length + k) * 1 = (bytesOf l ++ bytesOf (List.replicate k 0)).length := by simp [bytes_len]
        rw [e]
        simp only [Array.toList_append, List.append_assoc]
        rw [← List.append_assoc]
        exact List.take_left

/-- The text of a row. -/
theorem br_str {w : World} {B : Nat} {v : Value} {l : List UInt8} (h : w.ownsRow B 5 1 v l.length (bytesOf l)) (h0 : 0 < l.length) : (convert 60 9 v).run Tryz.prog w = .ok (.string (bs l)) w := by
  rcases h.2 with ⟨rfl, h9⟩ | ⟨g, cap, cur, rfl, hbg, hg, hnc, hcm, hcs, htake⟩
  · omega
  · refine run_convert_bytes_back w 60 9 5 ⟨g, 0, none⟩ cap l Tryz.underlying60 Tryz.underlying5 Tryz.underlying9 (fun j hj => ?_)
    exact h.cells (g := g) rfl j _ (by simp [bytesOf, hj])

theorem be_get : ∀ (k n j : Nat), j < k → (be k n)[j]? = some (UInt8.ofNat (n / 256 ^ (k - 1 - j)))
  | 0, n, j, h => by omega
  | k + 1, n, j, h => by
    rw [be]
    by_cases e : j = k
    · subst e
      rw [List.getElem?_append_right (by rw [be_length]; omega), be_length]
      simp
    · rw [List.getElem?_append_left (by rw [be_length]; omega), be_get k _ j (by omega), Nat.div_div_eq_div_mul]
      congr 2
      have : k + 1 - 1 - j = (k - 1 - j) + 1 := by omega
      rw [this, Nat.pow_succ, Nat.mul_comm]
theorem be_take_succ (k n j : Nat) (h : j < k) : (be k n).take (j + 1) = (be k n).take j ++ [UInt8.ofNat (n / 256 ^ (k - 1 - j))] := by
  rw [List.take_add_one, be_get k n j h]
  rfl

set_option maxHeartbeats 4000000 in
set_option maxRecDepth 100000 in
theorem big_c (w : World) (B : Nat) (v : Value) (l : List UInt8) (n k : Nat) (ho : BR w B v l) (hB : B ≤ w.heap.size) (hn : n ≤ 9223372036854775807) (hk : k ≤ 8) (hk1 : 0 < k) (hl : l.length ≤ 1000000) :
    Calls Tryz.prog 90 #[v, .int .i64 n, .int .i64 k] w fun e w' => ∃ v', e = .returned v' ∧ w'.ownsRow B 5 1 v' (l ++ be k n).length (bytesOf (l ++ be k n)) ∧ Fr (fun i => B ≤ i) w w' := by
  have HO := hid ho
  clear ho
  go_enter Tryz.func90, Tryz.ntmps90
  go_wp2_with fail
  go_loopw [0, 7] (fun v i wr => ∃ (j : Nat), i = .int .i64 ((k : Int) - 1 - j) ∧ j ≤ k ∧ Hid (BR wr B v (l ++ (be k n).take j)) ∧ Hid (0 < j → wr.ownsRow B 5 1 v (l ++ (be k n).take j).length (bytesOf (l ++ (be k n).take j))) ∧ Hid (Fr (fun i => B ≤ i) w wr)) (fun _ i _ => (intOf i + 1).toNat)
  case atStart => exact ⟨0, by simp, by omega, hid (by simpa using HO.out), hid (fun h => by omega), hid (Fr.refl _ _)⟩
  case round =>
    obtain ⟨j, rfl, hj, HO, HP, HW⟩ := hrel
    have hjl : ((be k n).take j).length = j := by rw [List.length_take, be_length]; omega
    by_cases hend : j = k
    · subst hend
      go_wp2_with fail
      go_ret
      refine ⟨_, rfl, ?_, HW.out⟩
      have := HP.out (by omega)
      rwa [List.take_of_length_le (by rw [be_length]; omega)] at this
    · have hj' : j < k := by omega
      have ec : (((UInt8.ofNat (n / 256 ^ (k - 1 - j))).toNat : Nat) : Int) = (n : Int) / 2 ^ (8 * (k - 1 - j)) % 256 := by
        rw [UInt8.toNat_ofNat']
        have : (256 : Nat) ^ (k - 1 - j) = 2 ^ (8 * (k - 1 - j)) := by rw [Nat.pow_mul]
        rw [this]
        simp
      have hf0 : Fr (fun _ => False) wr (wr.alloc (.cells #[.int .u8 ((n : Int) / 2 ^ (8 * (k - 1 - j)) % 256)] 5)) := (Fr.refl _ wr).alloc _
      have hBr : B ≤ wr.heap.size := Nat.le_trans hB HW.out.size
      obtain ⟨v2, w2, hrun, hB2, hg2⟩ := (HO.out.stay hf0).push (Nat.le_trans hBr hf0.size) (by rw [List.length_append, hjl]; omega) wr.heap.size (UInt8.ofNat (n / 256 ^ (k - 1 - j))) (by rw [ec]; exact (MapKept.heap_alloc wr _).1) 60
      have HR := hid hrun
      have HB2 := hid hB2
      have HF2 := hid (((HW.out.trans hf0 (fun _ _ f => f.elim)).grown hg2 (fun i hi _ => (HO.out.lt i hi).1)) : Fr (fun i => B ≤ i) w w2)
      clear hrun hB2 hg2 hf0 ec hend hBr
      go_wp2_with (at_builtin; refine Lib.wpList_append_run _ rfl _ _ _ _ rfl _ _ rfl rfl _ _ HR.out ?_)
      have e9 : l ++ (be k n).take (j + 1) = l ++ (be k n).take j ++ [UInt8.ofNat (n / 256 ^ (k - 1 - j))] := by rw [be_take_succ k n j hj', ← List.append_assoc]
      refine ⟨⟨j + 1, by congr 1; omega, by omega, hid (Or.inl ?_), hid (fun _ => ?_), HF2⟩, ?_⟩
      · rw [e9]; exact HB2.out
      · rw [e9]; exact HB2.out
      · simp [intOf]; omega

end Go.Proofs.YtjkhcfdflcndkaaGreat.D

/-
  A pager's head. No condition beyond the sizes that are named.
-/
namespace Go.Proofs.YtjkhcfdflcndkaaGreat.D
open Go.RowKit Go.Maps Go.Shelf
set_option linter.unusedVariables false
set_option linter.unusedSimpArgs false

/-- A head's bytes: its number, the root and one, the From. -/
def headB (gen rp fr : Nat) : List UInt8 := [82, 90, 72, 49] ++ be 8 gen ++ be 4 rp ++ be 8 fr ++ List.replicate 40 0
theorem headB_len (gen rp fr : Nat) : (headB gen rp fr).length = 64 := by simp [headB, be_length]

theorem fr_low {B : Nat} {w w' : World} (h : Fr (fun i => B ≤ i) w w') (hB : w.heap.size ≤ B) (S : Nat → Prop) : Fr S w w' := h.mono (fun i hi hb => by omega)

set_option maxHeartbeats 4000000 in
set_option maxRecDepth 100000 in
theorem head_c (w : World) (gen rp fr : Nat) (r : Int) (hr : r + 1 = (rp : Int)) (hg : gen ≤ 1152921504606846977) (hp : rp ≤ 1000000) (hf : fr ≤ 1152921504606846976) :
    Calls Tryz.prog 52 #[.int .i64 gen, .int .i64 r, .int .i64 fr] w fun e w' => e = .returned (.string (bs (headB gen rp fr))) ∧ Fr (fun _ => False) w w' := by
  obtain ⟨B, hB⟩ : ∃ B, B = w.heap.size := ⟨_, rfl⟩
  have HBIG := hid (fun (W : World) (v : Value) (l : List UInt8) (n k : Nat) (ho : BR W B v l) (hB : B ≤ W.heap.size) (hn : n ≤ 9223372036854775807) (hk : k ≤ 8) (hk1 : 0 < k) (hl : l.length ≤ 1000000) => big_c W B v l n k ho hB hn hk hk1 hl)
  have kc := fun (w : World) (C : Array Value) (n c : Nat) => Lib.run_convert_bytes_const (P := Tryz.prog) w 60 5 C n c Tryz.underlying60 Tryz.underlying5
  obtain ⟨L1, hL1⟩ : ∃ L : List UInt8, L = [82, 90, 72, 49] ++ be 8 gen := ⟨_, rfl⟩
  obtain ⟨L2, hL2⟩ : ∃ L : List UInt8, L = L1 ++ be 4 rp := ⟨_, rfl⟩
  obtain ⟨L3, hL3⟩ : ∃ L : List UInt8, L = L2 ++ be 8 fr := ⟨_, rfl⟩
  have l1 : L1.length = 12 := by rw [hL1]; simp [be_length]
  have l2 : L2.length = 16 := by rw [hL2]; simp [be_length, l1]
  have l3 : L3.length = 24 := by rw [hL3]; simp [be_length, l2]
  have HE := hid (show headB gen rp fr = L3 ++ List.replicate 40 0 by rw [hL3, hL2, hL1]; rfl)
  have H1 := hid (show ∀ W v, BR W B v [82, 90, 72, 49] → B ≤ W.heap.size → Calls Tryz.prog 90 #[v, .int .i64 gen, .int .i64 8] W fun e w' => ∃ v', e = .returned v' ∧ w'.ownsRow B 5 1 v' 12 (bytesOf L1) ∧ Fr (fun i => B ≤ i) W w' from
    fun W v h hW => (HBIG.out W v _ gen 8 h hW (by omega) (by decide) (by decide) (by decide)).mono (fun e w' x => by rw [← hL1, l1] at x; exact x))
  have H2 := hid (show ∀ W v, W.ownsRow B 5 1 v 12 (bytesOf L1) → B ≤ W.heap.size → Calls Tryz.prog 90 #[v, .int .i64 rp, .int .i64 4] W fun e w' => ∃ v', e = .returned v' ∧ w'.ownsRow B 5 1 v' 16 (bytesOf L2) ∧ Fr (fun i => B ≤ i) W w' from
    fun W v h hW => (HBIG.out W v L1 rp 4 (Or.inl (by rw [l1]; exact h)) hW (by omega) (by decide) (by decide) (by omega)).mono (fun e w' x => by rw [← hL2, l2] at x; exact x))
  have H3 := hid (show ∀ W v, W.ownsRow B 5 1 v 16 (bytesOf L2) → B ≤ W.heap.size → Calls Tryz.prog 90 #[v, .int .i64 fr, .int .i64 8] W fun e w' => ∃ v', e = .returned v' ∧ w'.ownsRow B 5 1 v' 24 (bytesOf L3) ∧ Fr (fun i => B ≤ i) W w' from
    fun W v h hW => (HBIG.out W v L2 fr 8 (Or.inl (by rw [l2]; exact h)) hW (by omega) (by decide) (by decide) (by omega)).mono (fun e w' x => by rw [← hL3, l3] at x; exact x))
  have HB := hid hB
  have HL3 := hid l3
  clear HBIG hL1 hL2 hL3 l1 l2 l3 hB
  go_enter Tryz.func52, Tryz.ntmps52
  go_wp2_with fail
  have hf1 : Fr (fun i => B ≤ i) w (w.alloc (.cells #[.int .u8 82, .int .u8 90, .int .u8 72, .int .u8 49] 5 (4, 5))) := (Fr.refl _ w).alloc _
  have hb1 : BR (w.alloc (.cells #[.int .u8 82, .int .u8 90, .int .u8 72, .int .u8 49] 5 (4, 5))) B (.slice (some ⟨w.heap.size, 0, none⟩) 4 4) [82, 90, 72, 49] :=
    Or.inr ⟨_, _, _, rfl, by rw [HB.out]; exact Nat.le_refl _, (MapKept.heap_alloc w _).1, rfl⟩
  refine (H1.out _ _ hb1 (by have := hf1.size; have := HB.out; omega)).mono ?_
  have HF1 := hid hf1
  clear hf1 hb1
  rintro e w2 ⟨v2, rfl, ho2, hf2⟩
  have HF2 := hid (HF1.out.trans hf2 (fun _ _ e => e))
  have HO2 := hid ho2
  clear ho2 hf2
  go_wp2_with fail
  refine (H2.out _ _ HO2.out (by have := HF2.out.size; have := HB.out; omega)).mono ?_
  rintro e w3 ⟨v3, rfl, ho3, hf3⟩
  have HF3 := hid (HF2.out.trans hf3 (fun _ _ e => e))
  have HO3 := hid ho3
  clear ho3 hf3
  go_wp2_with fail
  refine (H3.out _ _ HO3.out (by have := HF3.out.size; have := HB.out; omega)).mono ?_
  rintro e w4 ⟨v4, rfl, ho4, hf4⟩
  have HF4 := hid (HF3.out.trans hf4 (fun _ _ e => e))
  have HO4 := hid ho4
  obtain ⟨v5, w5, hrun, ho5, hg5⟩ := own_zeros (l := L3) (by rw [HL3.out]; exact ho4) (by have := HF4.out.size; have := HB.out; omega) (by have := HL3.out; omega) (by have := HL3.out; omega) 40 (by decide) (by decide) 60
  have HF5 := hid (HF4.out.grown hg5 (fun i hi _ => (HO4.out.lt i hi).1))
  have hstr := br_str ho5 (by simp)
  rw [← HE.out] at hstr
  obtain ⟨g4, c4, rfl⟩ := Joins.ownsRow_form ho4 (by omega)
  have HRUN := hid hrun
  clear ho4 hf4 ho5 hg5 hrun
  go_wp2_with (first
    | (at_builtin; refine Lib.wpList_append_run _ rfl _ _ _ _ rfl _ _ rfl rfl _ _ HRUN.out ?_))
  go_ret
  exact ⟨rfl, fr_low HF5.out (by have := HB.out; omega) _⟩

end Go.Proofs.YtjkhcfdflcndkaaGreat.D

/-
  A pager's set grows; Alloc. No condition beyond the sizes that are named.
-/
namespace Go.Proofs.YtjkhcfdflcndkaaGreat.D
open Go.RowKit Go.Maps Go.Sort Go.Shelf
set_option linter.unusedVariables false
set_option linter.unusedSimpArgs false

theorem set_few {w : World} {b m N : Nat} {D : DataW Unit} {f : Int → Bool} (hown : w.ownsMap Tryz.prog 3 (unitElem (H := Unit)) b m D) (hh : ∀ i : Int, Maps.has D (.int .i64 i) = f i)
    (hk : ∀ k, Maps.has D k = true → ∃ i, k = .int .i64 i) (hb : ∀ i, f i = true → 0 ≤ i ∧ i < (N : Int)) : (((List.range N).filter (fun i => f (i : Nat))).map (fun (i : Nat) => (i : Int))).Perm (intKeys D) := by
  have K : Keyed Tryz.prog 3 := int_keyed Tryz.underlying3
  obtain ⟨es0, e1, hp⟩ := hown.tidy K
  have hkey : ∀ p ∈ es0, WideAt.IsKeyLit p.1 := by
    obtain ⟨es, clock, hb, F, _, hD⟩ := hown
    rw [e1] at hD
    injection hD with hD
    intro p hpm
    rw [hD] at hpm
    have hpm := (WideShapes.sorted_perm _).mem_iff.1 hpm
    obtain ⟨key, hkk⟩ := fit_keys F p hpm
    exact K.key hkk
  subst e1
  refine perm_intKeys hp (fun p hpm => ?_) ?_ (fun x => ?_)
  · obtain ⟨i, hi⟩ := hk p.1 (by rw [has_eq, List.any_eq_true]; exact ⟨p, hpm, WideAt.sameKey_self (hkey p hpm)⟩)
    exact ⟨_, hi⟩
  · refine List.pairwise_map.2 ((List.Pairwise.filter _ List.pairwise_lt_range).imp (fun {a b} h => ?_))
    omega
  · constructor
    · intro hx
      obtain ⟨i, hi, rfl⟩ := List.mem_map.1 hx
      rw [hh i]
      exact (List.mem_filter.1 hi).2
    · intro hx
      rw [hh x] at hx
      obtain ⟨h1, h2⟩ := hb x hx
      exact List.mem_map.2 ⟨x.toNat, List.mem_filter.2 ⟨List.mem_range.2 (by omega), by rw [Int.toNat_of_nonneg h1]; exact hx⟩, Int.toNat_of_nonneg h1⟩

theorem SetAt.few {w : World} {b N : Nat} {f : Int → Bool} (h : SetAt w b f) (hb : ∀ i, f i = true → 0 ≤ i ∧ i < (N : Int)) : ∃ D, w.ownsMap Tryz.prog 3 (unitElem (H := Unit)) b N D ∧ (∀ i : Int, Maps.has D (.int .i64 i) = f i) ∧ ∀ k, Maps.has D k = true → ∃ i, k = .int .i64 i := by
  obtain ⟨n, D, hown, hh, hk⟩ := h
  have hperm := set_few hown hh hk hb
  refine ⟨D, ?_, hh, hk⟩
  obtain ⟨es, clock, hb', F, hm, hD⟩ := hown
  refine ⟨es, clock, hb', F, ?_, hD⟩
  have h1 := hperm.length_eq
  have h2 : (intKeys D).length = es.size := by rw [hD]; simp [intKeys, length_sorted]
  rw [← h2, ← h1, List.length_map]
  have := List.length_filter_le (fun i => f (i : Nat)) (List.range N)
  simp at *
  omega

theorem SetAt.put {w : World} {b N : Nat} {f : Int → Bool} (h : SetAt w b f) (hb : ∀ i, f i = true → 0 ≤ i ∧ i < (N : Int)) (hN : N ≤ 1000000) (k : Int) (h1 : -9223372036854775808 ≤ k) (h2 : k ≤ 9223372036854775807) :
    ∃ w', (Instr.mapUpdate 68 (.map (some b)) (.int .i64 k) (.agg #[])).run Tryz.prog w = .ok () w' ∧ SetAt w' b (fun i => i == k || f i) ∧ Fr (· = b) w w' := by
  have K : Keyed Tryz.prog 3 := int_keyed Tryz.underlying3
  have hkey := keyOf_int_mk (P := Tryz.prog) (k := 3) Tryz.underlying3 (a := k) (WalkArith.wf_i64 (by omega))
  obtain ⟨D, hown, hh, hks⟩ := h.few hb
  obtain ⟨w', hrun, hown', hgr⟩ := hown.update K Tryz.underlying68 (by unfold maxLen; omega) hkey (unitElem_mk (H := Unit))
  have hM := hown.isMap
  refine ⟨w', hrun, ⟨_, _, hown', fun i => ?_, fun kl hkl => ?_⟩, (Fr.refl _ w).grown hgr (fun i hi _ => by cases hi; rfl)⟩
  · by_cases e : i = k
    · subst e
      rw [has_put_same hM (by trivial)]
      simp
    · rw [has_put_other (by intro e2; injection e2 with _ e2; omega), hh i]
      simp [e]
  · by_cases e : kl = .int .i64 k
    · exact ⟨k, e⟩
    · rw [has_put_other e] at hkl
      exact hks kl hkl

end Go.Proofs.YtjkhcfdflcndkaaGreat.D
