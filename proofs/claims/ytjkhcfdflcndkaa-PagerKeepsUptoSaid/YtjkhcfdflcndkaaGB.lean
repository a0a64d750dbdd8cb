/-
  Rows of bytes that a call owns; a pager's big, head. No condition beyond the sizes that are named.
-/
import Derived.Test.YtjkhcfdflcndkaaG0
import Derived.Lib.AppendZerosOnto
import Derived.Lib.AppendStr
namespace Go.Proofs.Ytjkhcfdflcndkaa.D
open Go.RowKit Go.Maps Go.Shelf
set_option linter.unusedVariables false
set_option linter.unusedSimpArgs false

/-- The value v is a row of these bytes that the call owns; its block lies from B on. -/
def BR (w : World) (B : Nat) (v : Value) (l : List UInt8) : Prop :=
  w.ownsRow B 5 1 v l.length (bytesOf l) ∨ ∃ g cur fz, v = .slice (some ⟨g, 0, none⟩) l.length l.length ∧ B ≤ g ∧ w.heap[g]? = some (.cells cur 5 fz) ∧ cur.toList = bytesOf l

theorem addr_add (b k : Nat) : (⟨b, 0, none⟩ : Addr).add k = ⟨b, k, none⟩ := by unfold Addr.add; split <;> simp_all

theorem BR.lt {w : World} {B : Nat} {v : Value} {l : List UInt8} (h : BR w B v l) : ∀ k, v.ownBlock = some k → B ≤ k ∧ k < w.heap.size := by
  rcases h with h | ⟨g, cur, fz, rfl, hb, hg, _⟩
  · exact h.lt
  · intro k hk
    simp [Value.ownBlock] at hk
    subst hk
    exact ⟨hb, lt_of_at hg⟩

theorem BR.keep {S : Nat → Prop} {w w' : World} {B : Nat} {v : Value} {l : List UInt8} (h : BR w B v l) (hf : Fr S w w') (hn : ∀ b, v.ownBlock = some b → ¬ S b) : BR w' B v l := by
  rcases h with h | ⟨g, cur, fz, rfl, hb, hg, hc⟩
  · left
    refine ⟨h.1, ?_⟩
    rcases h.2 with h0 | ⟨b', cap, cur, rfl, h1, h2, h3⟩
    · exact Or.inl h0
    · exact Or.inr ⟨b', cap, cur, rfl, h1, hf.at h2 (hn b' rfl), h3⟩
  · exact Or.inr ⟨g, cur, fz, rfl, hb, hf.at hg (hn g rfl), hc⟩
theorem BR.stay {w w' : World} {B : Nat} {v : Value} {l : List UInt8} (h : BR w B v l) (hf : Fr (fun _ => False) w w') : BR w' B v l := h.keep hf (fun _ _ f => f)

theorem bytes_len (l : List UInt8) : (bytesOf l).length = l.length := by simp [bytesOf]
theorem bytes_app (l m : List UInt8) : bytesOf (l ++ m) = bytesOf l ++ bytesOf m := by simp [bytesOf]
theorem bytes_one (l : List UInt8) : ∀ v ∈ bytesOf l, v.oneCell' = true := by
  intro v hv
  simp only [bytesOf, List.mem_map] at hv
  obtain ⟨b, _, rfl⟩ := hv
  rfl

/-- One more byte, out of a block of its own. -/
theorem BR.push {w : World} {B : Nat} {v : Value} {l : List UInt8} (h : BR w B v l) (hB : B ≤ w.heap.size) (hl : l.length ≤ 100000000) (b : Nat) (c : UInt8) (hb : w.heap[b]? = some (.cells #[.int .u8 (c.toNat : Int)] 5)) (ty : TypeId) :
    ∃ v' w', (Builtin.append_ #[36, 36] ty #[v, .slice (some ⟨b, 0, none⟩) 1 1]).run Try.prog w = .ok v' w' ∧ w'.ownsRow B 5 1 v' (l ++ [c]).length (bytesOf (l ++ [c])) ∧ w.grownBy w' v.ownBlock := by
  obtain ⟨i0, hi, hz0, hz1, hz2⟩ := info_parts (show (Try.prog.info? 5).map (fun i => (i.zero, i.size, i.bytes)) = some (some (.int .u8 0), 1, 1) by kernel_rfl)
  have hnews : ∀ j u, (bytesOf [c])[j]? = some u → w.cell? ((⟨b, 0, none⟩ : Addr).add j) = some u := by
    intro j u hj
    have hj0 : j = 0 := by have := (List.getElem?_eq_some_iff.1 hj).1; simpa [bytesOf] using this
    subst hj0
    rw [addr_add, World.cell?, hb]
    simpa [bytesOf] using hj
  have elen : (l ++ [c]).length = l.length + 1 := by simp
  rw [elen, bytes_app]
  rcases h with h | ⟨g, cur, fz, rfl, hbg, hg, hc⟩
  · obtain ⟨v', w', h1, h2, h3, _⟩ := run_append_own (P := Try.prog) w B 36 ty 5 i0 (.int .u8 0) 1 1 Try.underlying36 hi hz0 hz1 hz2 rfl (by decide) v l.length (bytesOf l) h ⟨b, 0, none⟩ 1 1 (bytesOf [c]) rfl hnews (bytes_one [c]) (by unfold maxLen; omega) (by omega) hB
    exact ⟨v', w', h1, h2, h3⟩
  · have hcs : cur.size = l.length := by rw [← Array.length_toList, hc, bytes_len]
    have hr := run_append_grow (P := Try.prog) (w := w) 36 ty 5 i0 (.int .u8 0) Try.underlying36 hi hz0 ⟨g, 0, none⟩ l.length l.length (bytesOf l) (by rw [hz1, bytes_len, Nat.mul_one]) (fun j u hj => by
      rw [addr_add, World.cell?, hg]
      rw [← hc] at hj
      simpa using hj) ⟨b, 0, none⟩ 1 1 (bytesOf [c]) (by rw [hz1]; rfl) hnews (by omega) (by omega) (by rw [hz2]; exact growslice_fits (by omega) (by omega))
    refine ⟨_, _, hr, ⟨by simp [bytes_len], Or.inr ⟨w.heap.size, _, _, rfl, hB, heap_alloc_new w.drew _, grownCap_ge _ _ _ _, grownCap_le_maxLen _ _ _ _ (by unfold maxLen; omega), ?_, ?_⟩⟩, ⟨rfl, rfl, rfl, by simp, fun j hj _ => Below.heap_alloc w.drew _ j hj⟩⟩
    · have hge := grownCap_ge w (l.length + 1) l.length 5
      have hzs : (Value.int IntKind.u8 0).cells.size = 1 := rfl
      simp only [Array.size_append, List.size_toArray, size_zeroCells, hzs, bytes_len, List.length_cons, List.length_nil]
      omega
    · have e : (l.length + 1) * 1 = (bytesOf l ++ bytesOf [c]).length := by simp [bytes_len]
      rw [e]
      simp only [Array.toList_append, List.append_assoc]
      rw [← List.append_assoc]
      exact List.take_left

/-- Noughts behind what a row holds. -/
theorem own_zeros {w : World} {B : Nat} {v : Value} {l : List UInt8} (h : w.ownsRow B 5 1 v l.length (bytesOf l)) (hB : B ≤ w.heap.size) (hl : l.length ≤ 100000000) (h0 : 0 < l.length) (k : Nat) (hk : 0 < k) (hk2 : k ≤ 1000000) (ty : TypeId) :
    ∃ v' w', (Builtin.append_ #[36, 3] ty #[v, .int .i64 (k : Int)]).run Try.prog w = .ok v' w' ∧ w'.ownsRow B 5 1 v' (l ++ List.replicate k 0).length (bytesOf (l ++ List.replicate k 0)) ∧ w.grownBy w' v.ownBlock := by
  obtain ⟨i0, hi, hz0, hz1, hz2⟩ := info_parts (show (Try.prog.info? 5).map (fun i => (i.zero, i.size, i.bytes)) = some (some (.int .u8 0), 1, 1) by kernel_rfl)
  have hzc : (Builtin.zeroCells (Value.int .u8 0).cells k) = (bytesOf (List.replicate k 0)).toArray := by
    apply Array.ext
    · simp [Builtin.zeroCells, bytesOf, Value.cells]
    · intro i h1 h2
      have e0 : i % 1 = 0 := by omega
      simp [Builtin.zeroCells, bytesOf, Value.cells, e0]
  have elen : (l ++ List.replicate k (0 : UInt8)).length = l.length + k := by simp
  rw [elen, bytes_app]
  rcases h.2 with ⟨rfl, h9⟩ | ⟨g, cap, cur, rfl, hbg, hg, hnc, hcm, hcs, htake⟩
  · omega
  · have hcs' : cur.size = cap := by simpa using hcs
    have htake' : cur.toList.take l.length = bytesOf l := by simpa using htake
    by_cases hroom : l.length + k ≤ cap
    · have hl2 : (List.replicate k (0 : UInt8)).length = k := List.length_replicate
      have hst := run_storeCells_at Try.prog g l.length 5 (bytesOf (List.replicate k 0)) 0 cur w hg (by rw [hcs', bytes_len, hl2]; omega) (bytes_one _)
      have hbl : (bytesOf (List.replicate k (0 : UInt8))).length = k := by simp [bytesOf]
      simp only [Nat.add_zero, hbl] at hst
      have hw : IntKind.i64.wrap (k : Int) = k := by rw [IntKind.wrap_i64]; omega
      have hneg : ¬ ((k : Int) < 0) := by omega
      have h48 : ¬ (281474976710656 < (k : Int)) := by omega
      have hk0 : k ≠ 0 := by omega
      refine ⟨.slice (some ⟨g, 0, none⟩) (l.length + k : Nat) cap, _, (by
        simp [Builtin.append_, run_underlying Try.underlying36, run_underlying Try.underlying3, sizeOf, typeInfo, zeroValue, hi, hz0, hz1, hz2, asInt, asIntOf, hw, hneg, h48, hk0, hroom, hzc, Addr.add_lit, hst]
        rfl), ⟨by simp [bytes_len], Or.inr ⟨g, cap, _, rfl, hbg, setRow_heap w g cur _ 5 _ hg, hroom, hcm, ?_, ?_⟩⟩, ⟨rfl, rfl, rfl, by simp, fun j _ hj => setRow_other w g j _ (fun e => hj (by simp [Value.ownBlock, e]))⟩⟩
      · simp only [List.size_toArray, List.length_append, List.length_take, List.length_drop, Array.length_toList, hbl]
        omega
      · have e : (l.length + k) * 1 = (bytesOf l ++ bytesOf (List.replicate k 0)).length := by simp [bytes_len]
        rw [htake', e]
        simp only []
        rw [← List.append_assoc]
        exact List.take_left
    · have hr := Lib.run_append_grow_zeros (P := Try.prog) w 36 3 ty 5 i0 (.int .u8 0) .i64 .i64 Try.underlying36 Try.underlying3 hi hz0 (some ⟨g, 0, none⟩) l.length cap (bytesOf l)
        (by
          have := run_firstCells_some (P := Try.prog) w.drew i0.size l.length ⟨g, 0, none⟩ l.length cap (bytesOf l) (by rw [hz1, bytes_len, Nat.mul_one]) (by simpa using h.cells (g := g) rfl)
          exact this) k hk (by omega) (by omega) (by omega) (by rw [hz2]; omega) (by rw [hz2]; exact growslice_fits (by omega) (by omega))
      refine ⟨_, _, hr, ⟨by simp [bytes_len], Or.inr ⟨w.heap.size, _, _, rfl, hB, heap_alloc_new w.drew _, grownCap_ge _ _ _ _, grownCap_le_maxLen _ _ _ _ (by unfold maxLen; omega), ?_, ?_⟩⟩, ⟨rfl, rfl, rfl, by simp, fun j hj _ => Below.heap_alloc w.drew _ j hj⟩⟩
      · have hge := grownCap_ge w (l.length + k) cap 5
        have hzs : (Value.int IntKind.u8 0).cells.size = 1 := rfl
        simp only [Array.size_append, List.size_toArray, size_zeroCells, hzs, bytes_len]
        omega
      · rw [hzc]
        have e : (l.length + k) * 1 = (bytesOf l ++ bytesOf (List.replicate k 0)).length := by simp [bytes_len]
        rw [e]
        simp only [Array.toList_append, List.append_assoc]
        rw [← List.append_assoc]
        exact List.take_left

/-- The text of a row. -/
theorem own_str {w : World} {B : Nat} {v : Value} {l : List UInt8} (h : w.ownsRow B 5 1 v l.length (bytesOf l)) (h0 : 0 < l.length) : (convert 36 9 v).run Try.prog w = .ok (.string (bs l)) w := by
  rcases h.2 with ⟨rfl, h9⟩ | ⟨g, cap, cur, rfl, hbg, hg, hnc, hcm, hcs, htake⟩
  · omega
  · refine run_convert_bytes_back w 36 9 5 ⟨g, 0, none⟩ cap l Try.underlying36 Try.underlying5 Try.underlying9 (fun j hj => ?_)
    exact h.cells (g := g) rfl j _ (by simp [bytesOf, hj])

theorem be_get : ∀ (k n j : Nat), j < k → (be k n)[j]? = some (UInt8.ofNat (n / 256 ^ (k - 1 - j)))
  | 0, n, j, h => by omega
  | k + 1, n, j, h => by
    rw [be]
    by_cases e : j = k
    · subst e
      rw [List.getElem?_append_right (by rw [be_length]; omega), be_length]
      simp
    · rw [List.getElem?_append_left (by rw [be_length]; omega), be_get k _ j (by omega), Nat.div_div_eq_div_mul]
      congr 2
      have : k + 1 - 1 - j = (k - 1 - j) + 1 := by omega
      rw [this, Nat.pow_succ, Nat.mul_comm]
theorem be_take_succ (k n j : Nat) (h : j < k) : (be k n).take (j + 1) = (be k n).take j ++ [UInt8.ofNat (n / 256 ^ (k - 1 - j))] := by
  rw [List.take_add_one, be_get k n j h]
  rfl

set_option maxHeartbeats 4000000 in
set_option maxRecDepth 100000 in
theorem big_c (w : World) (B : Nat) (v : Value) (l : List UInt8) (n k : Nat) (ho : BR w B v l) (hB : B ≤ w.heap.size) (hn : n ≤ 9223372036854775807) (hk : k ≤ 8) (hk1 : 0 < k) (hl : l.length ≤ 1000000) :
    Calls Try.prog 49 #[v, .int .i64 n, .int .i64 k] w fun e w' => ∃ v', e = .returned v' ∧ w'.ownsRow B 5 1 v' (l ++ be k n).length (bytesOf (l ++ be k n)) ∧ Fr (fun i => B ≤ i) w w' := by
  have HO := hid ho
  clear ho
  go_enter Try.func49, Try.ntmps49
  go_wp2_with fail
  go_loopw [0, 7] (fun v i wr => ∃ (j : Nat), i = .int .i64 ((k : Int) - 1 - j) ∧ j ≤ k ∧ Hid (BR wr B v (l ++ (be k n).take j)) ∧ Hid (0 < j → wr.ownsRow B 5 1 v (l ++ (be k n).take j).length (bytesOf (l ++ (be k n).take j))) ∧ Hid (Fr (fun i => B ≤ i) w wr)) (fun _ i _ => (intOf i + 1).toNat)
  case atStart => exact ⟨0, by simp, by omega, hid (by simpa using HO.out), hid (fun h => by omega), hid (Fr.refl _ _)⟩
  case round =>
    obtain ⟨j, rfl, hj, HO, HP, HW⟩ := hrel
    have hjl : ((be k n).take j).length = j := by rw [List.length_take, be_length]; omega
    by_cases hend : j = k
    · subst hend
      go_wp2_with fail
      go_ret
      refine ⟨_, rfl, ?_, HW.out⟩
      have := HP.out (by omega)
      rwa [List.take_of_length_le (by rw [be_length]; omega)] at this
    · have hj' : j < k := by omega
      have ec : (((UInt8.ofNat (n / 256 ^ (k - 1 - j))).toNat : Nat) : Int) = (n : Int) / 2 ^ (8 * (k - 1 - j)) % 256 := by
        rw [UInt8.toNat_ofNat']
        have : (256 : Nat) ^ (k - 1 - j) = 2 ^ (8 * (k - 1 - j)) := by rw [Nat.pow_mul]
        rw [this]
        simp
      have hf0 : Fr (fun _ => False) wr (wr.alloc (.cells #[.int .u8 ((n : Int) / 2 ^ (8 * (k - 1 - j)) % 256)] 5)) := (Fr.refl _ wr).alloc _
      have hBr : B ≤ wr.heap.size := Nat.le_trans hB HW.out.size
      obtain ⟨v2, w2, hrun, hB2, hg2⟩ := (HO.out.stay hf0).push (Nat.le_trans hBr hf0.size) (by rw [List.length_append, hjl]; omega) wr.heap.size (UInt8.ofNat (n / 256 ^ (k - 1 - j))) (by rw [ec]; exact (MapKept.heap_alloc wr _).1) 36
      have HR := hid hrun
      have HB2 := hid hB2
      have HF2 := hid (((HW.out.trans hf0 (fun _ _ f => f.elim)).grown hg2 (fun i hi _ => (HO.out.lt i hi).1)) : Fr (fun i => B ≤ i) w w2)
      clear hrun hB2 hg2 hf0 ec hend hBr
      go_wp2_with (at_builtin; refine Lib.wpList_append_run _ rfl _ _ _ _ rfl _ _ rfl rfl _ _ HR.out ?_)
      have e9 : l ++ (be k n).take (j + 1) = l ++ (be k n).take j ++ [UInt8.ofNat (n / 256 ^ (k - 1 - j))] := by rw [be_take_succ k n j hj', ← List.append_assoc]
      refine ⟨⟨j + 1, by congr 1; omega, by omega, hid (Or.inl ?_), hid (fun _ => ?_), HF2⟩, ?_⟩
      · rw [e9]; exact HB2.out
      · rw [e9]; exact HB2.out
      · simp [intOf]; omega

end Go.Proofs.Ytjkhcfdflcndkaa.D
