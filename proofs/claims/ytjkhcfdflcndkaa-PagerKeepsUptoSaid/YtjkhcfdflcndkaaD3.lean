/-
  What is left of a disk's bytes where some of its unsafe sectors come to be safe: (*Disk).left, over what (*Disk).Unsafe tells; After; Image.
-/
import Derived.Test.YtjkhcfdflcndkaaD2
import Derived.Maps.Views
import Derived.StillTailTactics
import Derived.Lib.BufferWrite
import Derived.Laws.IdiomStrings
namespace Go.Proofs.Ytjkhcfdflcndkaa.D
open Go.RowKit Go.Maps
set_option linter.unusedVariables false
set_option linter.unusedSimpArgs false

/-- What Unsafe tells. -/
def UnsafeC : Prop := ∀ (w : World) (g bm : Nat) (s : St), At w g bm s → s.Ok →
  Calls Try.prog 67 #[.pointer (some ⟨g, 0, none⟩)] w fun e w' => ∃ v, e = .returned v ∧ IntsAt w' v (s.unl.map (fun (i : Nat) => (i : Int))) ∧ (∀ a n c, v = .slice (some a) n c → w.heap.size ≤ a.block) ∧ Fr (fun _ => False) w w'

theorem str_inv {v : Value} {l : List UInt8} {ps : List MemPlace} (h : plainElem (H := Unit) Try.prog 9 v = some (.lit (.string l), ps)) : v = .string (bs l) := by
  have he : Try.prog.underlying 9 = some .string := Try.underlying9
  unfold plainElem at h
  rw [he] at h
  cases v <;> simp at h
  obtain ⟨_, rfl, _⟩ := h
  rfl

theorem wf_nat (k : Nat) (hk : k ≤ 9223372036854775807) : (Lit.int .i64 (k : Int)).wf = true := WalkArith.wf_i64 (by omega)

/-- The look-up of a string: what is there, or the empty string. -/
theorem look_un {w : World} {g bm : Nat} {s : St} (h : At w g bm s) (k : Nat) (hk : k ≤ 9223372036854775807) (c : Bool) :
    (Instr.lookup 63 (.map (some bm)) (.int .i64 k) c).run Try.prog w = .ok (if c then .tuple #[.string (bs ((s.un k).getD [])), .bool (s.un k).isSome] else .string (bs ((s.un k).getD []))) w := by
  obtain ⟨_, m, D, hown, hsays, _⟩ := h
  have K : Keyed Try.prog 3 := int_keyed Try.underlying3
  have hkey := keyOf_int_mk (P := Try.prog) (k := 3) Try.underlying3 (wf_nat k hk)
  have hz : ∀ w : World, (zeroValue 9).run Try.prog w = .ok (.string (bs [])) w := fun w => by kernel_rfl
  have hv := hsays.val k
  have hzs : plainElem (H := Unit) Try.prog 9 (.string (bs [])) = some (.lit (.string []), []) := plainElem_string Try.underlying9 (by decide)
  have hh := hsays.has k
  obtain ⟨es, clock, hb, F, hs, rfl⟩ := hown
  rcases Maps.fit_look c K Try.underlying63 (hz w) hb F hkey with ⟨hrun, _, hat⟩ | ⟨e0, y, _, _, hrun, hRv, hat, _⟩
  · have e1 : s.un k = none := by
      cases hu : s.un k with
      | none => rfl
      | some l => have := (hv .nil).symm.trans (hat .nil); rw [hu] at this; cases this
    rw [hrun, e1]
    rfl
  · have e1 : ∃ l, s.un k = some l := by
      cases hu : s.un k with
      | some l => exact ⟨l, rfl⟩
      | none =>
        exfalso
        have h1 := (hv .nil).symm.trans (hat .nil)
        have h2 := (hv (.lit (.bool true))).symm.trans (hat (.lit (.bool true)))
        rw [hu] at h1 h2
        rw [← h1] at h2
        cases h2
    obtain ⟨l, hl⟩ := e1
    have h1 := (hv .nil).symm.trans (hat .nil)
    rw [hl] at h1
    obtain ⟨y1, y2⟩ := y
    simp only [un0] at h1
    subst h1
    rw [hrun, str_inv hRv, hl]
    rfl

/-! ### bytes in a row -/

def bytesOf (l : List UInt8) : List Value := l.map (fun b => Value.int .u8 (b.toNat : Int))

/-- Block g holds the bytes b; none of its cells is frozen. -/
def RowAt (w : World) (g cap : Nat) (b : List UInt8) : Prop :=
  ∃ cur, w.heap[g]? = some (.cells cur 5 (cur.size, cur.size + 1)) ∧ b.length ≤ cap ∧ cur.size = cap ∧ cur.toList.take b.length = bytesOf b

theorem stores (P : Program) (g o : Nat) (t : TypeId) (fz : Nat × Nat) : ∀ (vs : List Value) (i : Nat) (cur : Array Value) (w : World), w.heap[g]? = some (.cells cur t fz) → o + i + vs.length ≤ fz.1 → o + i + vs.length ≤ cur.size → (∀ v ∈ vs, v.oneCell' = true) →
    (storeCells ⟨g, o, none⟩ vs i).run P w = .ok () (w.setRow g (cur.toList.take (o + i) ++ vs ++ cur.toList.drop (o + i + vs.length)).toArray)
  | [], i, cur, w, hg, _, _, _ => by
    simp only [storeCells, List.append_nil, List.length_nil, Nat.add_zero, List.take_append_drop, Array.toArray_toList]
    rw [setRow_self w g cur t fz hg]
    rfl
  | v :: rest, i, cur, w, hg, hfz, hl, h1 => by
    have hi : o + i < cur.size := by simp at hl; omega
    have hadd : (⟨g, o, none⟩ : Addr).add i = ⟨g, o + i, none⟩ := by unfold Addr.add; split <;> simp_all
    have hcell : w.cell? ⟨g, o + i, none⟩ = some cur[o + i] := by simp [World.cell?, hg, hi]
    have hfro : w.frozen? ⟨g, o + i, none⟩ = false := by
      obtain ⟨lo, hi'⟩ := fz
      simp only [World.frozen?, hg, Bool.and_eq_false_iff, decide_eq_false_iff_not]
      left
      simp only [List.length_cons] at hfz
      omega
    have hst : (store ((⟨g, o, none⟩ : Addr).add i) v).run P w = .ok () (w.setRow g (cur.setIfInBounds (o + i) v)) := by
      rw [hadd, run_store P w _ v _ (h1 v (by simp)), hcell]
      simp [hfro, setCell_eq_setRow w g (o + i) cur t fz v hg]
    have ih := stores P g o t fz rest (i + 1) (cur.setIfInBounds (o + i) v) (w.setRow g (cur.setIfInBounds (o + i) v)) (setRow_heap w g cur _ t _ hg) (by simp at hfz ⊢; omega) (by simp at hl ⊢; omega) (fun x hx => h1 x (by simp [hx]))
    simp only [storeCells, Sem.run_bind, hst, Result.andThen_ok, ih, setRow_setRow]
    congr 3
    have e := list_seg_step cur.toList (o + i) v rest (by simp at hl ⊢; omega)
    simpa [Array.toList_setIfInBounds, Nat.add_assoc] using e

/-- 'copy(dst, s)', s a string that fits. -/
theorem copy_str {P : Program} (w : World) (dT sT ty elem : TypeId) (g o dLen dCap : Nat) (l : List UInt8) (cur : Array Value) (t : TypeId) (fz : Nat × Nat)
    (hu : P.underlying dT = some (.slice elem)) (hs : (P.info? elem).map (·.size) = some 1) (hg : w.heap[g]? = some (.cells cur t fz)) (hle : l.length ≤ dLen) (hfit : o + l.length ≤ cur.size) (hfz : o + l.length ≤ fz.1) :
    (Builtin.copy_ #[dT, sT] ty #[.slice (some ⟨g, o, none⟩) dLen dCap, .string (bs l)]).run P w =
      .ok (goInt l.length) (w.setRow g (cur.toList.take o ++ bytesOf l ++ cur.toList.drop (o + l.length)).toArray) := by
  have hlen : (bytesOf l).length = l.length := by simp [bytesOf]
  have hst := stores P g o t fz (bytesOf l) 0 cur w hg (by rw [hlen]; simpa using hfz) (by rw [hlen]; simpa using hfit) (by
    intro v hv
    simp only [bytesOf, List.mem_map] at hv
    obtain ⟨b, _, rfl⟩ := hv
    rfl)
  have hmin : Nat.min l.length dLen = l.length := Nat.min_eq_left hle
  have hsz : (bs l).size = l.length := by simp [bs, ByteArray.size]
  have htk : List.take l.length (List.map (fun b : UInt8 => Value.int IntKind.u8 (b.toNat : Int)) l) = bytesOf l := by
    rw [List.take_of_length_le (by simp)]
    rfl
  rw [hlen] at hst
  simp only [Nat.add_zero] at hst
  cases hq : P.info? elem with
  | none => simp [hq] at hs
  | some i =>
    simp [Builtin.copy_, run_underlying hu, Builtin.lenOf, Builtin.firstCells, sizeOf, typeInfo, hq, hsz, hmin]
    rw [htk, hst]
    simp [Result.andThen]

end Go.Proofs.Ytjkhcfdflcndkaa.D
