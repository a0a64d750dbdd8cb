/-
  What is left of a disk's bytes where some of its unsafe sectors come to be safe: (*Disk).left, over what (*Disk).Unsafe tells; After; Image.
-/
import Derived.Test.YtjkhcfdflcndkaaGreatKO00
import Derived.Maps.Views
import Derived.StillTailTactics
import Derived.Lib.BufferWrite
import Derived.Laws.IdiomStrings
namespace Go.Proofs.YtjkhcfdflcndkaaGreat.D
open Go.RowKit Go.Maps
set_option linter.unusedVariables false
set_option linter.unusedSimpArgs false

/-- What Unsafe tells. -/
def UnsafeC : Prop := ∀ (w : World) (g bm : Nat) (s : St), At w g bm s → s.Ok →
  Calls Tryz.prog 17 #[.pointer (some ⟨g, 0, none⟩)] w fun e w' => ∃ v, e = .returned v ∧ IntsAt w' v (s.unl.map (fun (i : Nat) => (i : Int))) ∧ (∀ a n c, v = .slice (some a) n c → w.heap.size ≤ a.block) ∧ Fr (fun _ => False) w w'

theorem str_inv {v : Value} {l : List UInt8} {ps : List MemPlace} (h : plainElem (H := Unit) Tryz.prog 9 v = some (.lit (.string l), ps)) : v = .string (bs l) := by
  have he : Tryz.prog.underlying 9 = some .string := Tryz.underlying9
  unfold plainElem at h
  rw [he] at h
  cases v <;> simp at h
  obtain ⟨_, rfl, _⟩ := h
  rfl

theorem wf_nat (k : Nat) (hk : k ≤ 9223372036854775807) : (Lit.int .i64 (k : Int)).wf = true := WalkArith.wf_i64 (by omega)

/-- The look-up of a string: what is there, or the empty string. -/
theorem look_un {w : World} {g bm : Nat} {s : St} (h : At w g bm s) (k : Nat) (hk : k ≤ 9223372036854775807) (c : Bool) :
    (Instr.lookup 90 (.map (some bm)) (.int .i64 k) c).run Tryz.prog w = .ok (if c then .tuple #[.string (bs ((s.un k).getD [])), .bool (s.un k).isSome] else .string (bs ((s.un k).getD []))) w := by
  obtain ⟨_, m, D, hown, hsays, _⟩ := h
  have K : Keyed Tryz.prog 3 := int_keyed Tryz.underlying3
  have hkey := keyOf_int_mk (P := Tryz.prog) (k := 3) Tryz.underlying3 (wf_nat k hk)
  have hz : ∀ w : World, (zeroValue 9).run Tryz.prog w = .ok (.string (bs [])) w := fun w => by kernel_rfl
  have hv := hsays.val k
  have hzs : plainElem (H := Unit) Tryz.prog 9 (.string (bs [])) = some (.lit (.string []), []) := plainElem_string Tryz.underlying9 (by decide)
  have hh := hsays.has k
  obtain ⟨es, clock, hb, F, hs, rfl⟩ := hown
  rcases Maps.fit_look c K Tryz.underlying90 (hz w) hb F hkey with ⟨hrun, _, hat⟩ | ⟨e0, y, _, _, hrun, hRv, hat, _⟩
  · have e1 : s.un k = none := by
      cases hu : s.un k with
      | none => rfl
      | some l => have := (hv .nil).symm.trans (hat .nil); rw [hu] at this; cases this
    rw [hrun, e1]
    rfl
  · have e1 : ∃ l, s.un k = some l := by
      cases hu : s.un k with
      | some l => exact ⟨l, rfl⟩
      | none =>
        exfalso
        have h1 := (hv .nil).symm.trans (hat .nil)
        have h2 := (hv (.lit (.bool true))).symm.trans (hat (.lit (.bool true)))
        rw [hu] at h1 h2
        rw [← h1] at h2
        cases h2
    obtain ⟨l, hl⟩ := e1
    have h1 := (hv .nil).symm.trans (hat .nil)
    rw [hl] at h1
    obtain ⟨y1, y2⟩ := y
    simp only [un0] at h1
    subst h1
    rw [hrun, str_inv hRv, hl]
    rfl

/-! ### bytes in a row -/

def bytesOf (l : List UInt8) : List Value := l.map (fun b => Value.int .u8 (b.toNat : Int))

/-- Block g holds the bytes b; none of its cells is frozen. -/
def RowAt (w : World) (g cap : Nat) (b : List UInt8) : Prop :=
  ∃ cur, w.heap[g]? = some (.cells cur 5 (cur.size, cur.size + 1)) ∧ b.length ≤ cap ∧ cur.size = cap ∧ cur.toList.take b.length = bytesOf b

theorem stores (P : Program) (g o : Nat) (t : TypeId) (fz : Nat × Nat) : ∀ (vs : List Value) (i : Nat) (cur : Array Value) (w : World), w.heap[g]? = some (.cells cur t fz) → o + i + vs.length ≤ fz.1 → o + i + vs.length ≤ cur.size → (∀ v ∈ vs, v.oneCell' = true) →
    (storeCells ⟨g, o, none⟩ vs i).run P w = .ok () (w.setRow g (cur.toList.take (o + i) ++ vs ++ cur.toList.drop (o + i + vs.length)).toArray)
  | [], i, cur, w, hg, _, _, _ => by
    simp only [storeCells, List.append_nil, List.length_nil, Nat.add_zero, List.take_append_drop, Array.toArray_toList]
    rw [setRow_self w g cur t fz hg]
    rfl
  | v :: rest, i, cur, w, hg, hfz, hl, h1 => by
    have hi : o + i < cur.size := by simp at hl; omega
    have hadd : (⟨g, o, none⟩ : Addr).add i = ⟨g, o + i, none⟩ := by unfold Addr.add; split <;> simp_all
    have hcell : w.cell? ⟨g, o + i, none⟩ = some cur[o + i] := by simp [World.cell?, hg, hi]
    have hfro : w.frozen? ⟨g, o + i, none⟩ = false := by
      obtain ⟨lo, hi'⟩ := fz
      simp only [World.frozen?, hg, Bool.and_eq_false_iff, decide_eq_false_iff_not]
      left
      simp only [List.length_cons] at hfz
      omega
    have hst : (store ((⟨g, o, none⟩ : Addr).add i) v).run P w = .ok () (w.setRow g (cur.setIfInBounds (o + i) v)) := by
      rw [hadd, run_store P w _ v _ (h1 v (by simp)), hcell]
      simp [hfro, setCell_eq_setRow w g (o + i) cur t fz v hg]
    have ih := stores P g o t fz rest (i + 1) (cur.setIfInBounds (o + i) v) (w.setRow g (cur.setIfInBounds (o + i) v)) (setRow_heap w g cur _ t _ hg) (by simp at hfz ⊢; omega) (by simp at hl ⊢; omega) (fun x hx => h1 x (by simp [hx]))
    simp only [storeCells, Sem.run_bind, hst, Result.andThen_ok, ih, setRow_setRow]
    congr 3
    have e := list_seg_step cur.toList (o + i) v rest (by simp at hl ⊢; omega)
    simpa [Array.toList_setIfInBounds, Nat.add_assoc] using e

/-- 'copy(dst, s)', s a string that fits. -/
theorem copy_str {P : Program} (w : World) (dT sT ty elem : TypeId) (g o dLen dCap : Nat) (l : List UInt8) (cur : Array Value) (t : TypeId) (fz : Nat × Nat)
    (hu : P.underlying dT = some (.slice elem)) (hs : (P.info? elem).map (·.size) = some 1) (hg : w.heap[g]? = some (.cells cur t fz)) (hle : l.length ≤ dLen) (hfit : o + l.length ≤ cur.size) (hfz : o + l.length ≤ fz.1) :
    (Builtin.copy_ #[dT, sT] ty #[.slice (some ⟨g, o, none⟩) dLen dCap, .string (bs l)]).run P w =
      .ok (goInt l.length) (w.setRow g (cur.toList.take o ++ bytesOf l ++ cur.toList.drop (o + l.length)).toArray) := by
  have hlen : (bytesOf l).length = l.length := by simp [bytesOf]
  have hst := stores P g o t fz (bytesOf l) 0 cur w hg (by rw [hlen]; simpa using hfz) (by rw [hlen]; simpa using hfit) (by
    intro v hv
    simp only [bytesOf, List.mem_map] at hv
    obtain ⟨b, _, rfl⟩ := hv
    rfl)
  have hmin : Nat.min l.length dLen = l.length := Nat.min_eq_left hle
  have hsz : (bs l).size = l.length := by simp [bs, ByteArray.size]
  have htk : List.take l.length (List.map (fun b : UInt8 => Value.int IntKind.u8 (b.toNat : Int)) l) = bytesOf l := by
    rw [List.take_of_length_le (by simp)]
    rfl
  rw [hlen] at hst
  simp only [Nat.add_zero] at hst
  cases hq : P.info? elem with
  | none => simp [hq] at hs
  | some i =>
    simp [Builtin.copy_, run_underlying hu, Builtin.lenOf, Builtin.firstCells, sizeOf, typeInfo, hq, hsz, hmin]
    rw [htk, hst]
    simp [Result.andThen]

end Go.Proofs.YtjkhcfdflcndkaaGreat.D

/-
  (*Disk).left: what would be left where some of the unsafe sectors come to be safe.
-/
namespace Go.Proofs.YtjkhcfdflcndkaaGreat.D
open Go.RowKit Go.Maps
set_option linter.unusedVariables false
set_option linter.unusedSimpArgs false

/-- A function value that tells c, and turns nothing that is there. -/
def Tells (w : World) (F : FuncId) (cap : Array Value) (c : Nat → Bool) (S : Nat → Prop) : Prop :=
  (∀ args w', (callFunc F args).run Tryz.prog w' = .ok (.enter F args) w') ∧
  ∀ (i : Nat) (w' : World), Fr S w w' → Calls Tryz.prog F (#[.int .i64 (i : Int)] ++ cap) w' fun e w'' => e = .returned (.bool (c i)) ∧ Fr (fun _ => False) w' w''

theorem RowAt.keep {S : Nat → Prop} {w w' : World} {g cap : Nat} {b : List UInt8} (h : RowAt w g cap b) (hf : Fr S w w') (hn : ¬ S g) : RowAt w' g cap b := by
  obtain ⟨cur, h1, h2⟩ := h
  exact ⟨cur, hf.at h1 hn, h2⟩

theorem rowAt_new (w : World) (l : List UInt8) (cp : Nat) (h : l.length ≤ cp) :
    RowAt (w.alloc (.cells (bytesRow (bs l) cp) 5 ((bytesRow (bs l) cp).size, (bytesRow (bs l) cp).size + 1))).drew w.heap.size cp l := by
  have hz : (bs l).size = l.length := by simp [bs, ByteArray.size]
  refine ⟨bytesRow (bs l) cp, ?_, h, ?_, ?_⟩
  · exact (MapKept.heap_alloc w _).1
  · simp [bytesRow, hz]; omega
  · simp [bytesRow, hz, bytesOf, bs, List.take_append_of_le_length]

theorem leftGo_lt {c : Nat → Bool} {un : Nat → Option (List UInt8)} {L : List Nat} {k : Nat} (hk : k < L.length) (b : List UInt8) :
    leftGo c un k (L.drop k) b = leftGo c un (k + 1) (L.drop (k + 1)) (if c k then putAt b (L.getD k 0) ((un (L.getD k 0)).getD []) else b) := by
  rw [List.drop_eq_getElem_cons hk, leftGo]
  simp [List.getD_eq_getElem?_getD, List.getElem?_eq_getElem hk]

theorem row_back {w : World} {g cap : Nat} {b : List UInt8} (h : RowAt w g cap b) :
    (convert 60 9 (.slice (some ⟨g, 0, none⟩) b.length cap)).run Tryz.prog w = .ok (.string (bs b)) w := by
  obtain ⟨cur, h1, h2, h3, h4⟩ := h
  refine run_convert_bytes_back w 60 9 5 ⟨g, 0, none⟩ cap b Tryz.underlying60 Tryz.underlying5 Tryz.underlying9 (fun j hj => ?_)
  have e1 : (⟨g, 0, none⟩ : Addr).add j = ⟨g, j, none⟩ := by unfold Addr.add; split <;> simp_all
  rw [e1, World.cell?, h1]
  have h5 : (cur.toList.take b.length)[j]? = some (.int .u8 (b[j].toNat : Int)) := by rw [h4]; simp [bytesOf, hj]
  rw [List.getElem?_take_of_lt hj] at h5
  simpa using h5

/-- The copy into the row. -/
theorem row_copy {w : World} {g cap n : Nat} {b : List UInt8} (h : RowAt w g cap b) (hb : b.length = n) (k : Nat) (l : List UInt8) (hk : 64 * k + l.length ≤ n) (ty : TypeId) :
    ∃ w', (Builtin.copy_ #[60, 9] ty #[.slice (some ⟨g, 64 * k, none⟩) (n - 64 * k) (cap - 64 * k), .string (bs l)]).run Tryz.prog w = .ok (goInt l.length) w' ∧ RowAt w' g cap (putAt b k l) ∧ Fr (· = g) w w' := by
  obtain ⟨cur, h1, h2, h3, h4⟩ := h
  refine ⟨_, copy_str w 60 9 ty 5 g (64 * k) (n - 64 * k) (cap - 64 * k) l cur 5 _ Tryz.underlying60 (by kernel_rfl) h1 (by omega) (by omega) (by simp only; omega), ?_, ?_⟩
  · have hl : (bytesOf l).length = l.length := by simp [bytesOf]
    have hs2 : (cur.toList.take (64 * k) ++ bytesOf l ++ cur.toList.drop (64 * k + l.length)).toArray.size = cur.size := by
      simp [hl]; omega
    refine ⟨_, (setRow_heap w g cur _ _ _ h1).trans (by rw [hs2]), ?_, ?_, ?_⟩
    · simp only [putAt, List.length_append, List.length_take, List.length_drop]; omega
    · rw [hs2, h3]
    · have e1 : (putAt b k l).length = b.length := by simp only [putAt, List.length_append, List.length_take, List.length_drop]; omega
      rw [e1]
      apply List.ext_getElem?
      intro i
      have h5 : ∀ j, j < b.length → cur.toList[j]? = some (.int .u8 ((b.getD j 0).toNat : Int)) := by
        intro j hj
        have : (cur.toList.take b.length)[j]? = some (.int .u8 ((b.getD j 0).toNat : Int)) := by rw [h4]; simp [bytesOf, hj, List.getD_eq_getElem?_getD]
        rwa [List.getElem?_take_of_lt hj] at this
      by_cases hi : i < b.length
      · rw [List.getElem?_take_of_lt hi]
        simp only [putAt, bytesOf, List.map_append, List.append_assoc]
        by_cases h6 : i < 64 * k
        · rw [List.getElem?_append_left (by simp; omega), List.getElem?_append_left (by simp; omega), List.getElem?_take_of_lt h6, h5 i hi]
          simp [List.getElem?_take_of_lt h6, hi, List.getD_eq_getElem?_getD]
        · have e2 : (cur.toList.take (64 * k)).length = 64 * k := by simp; omega
          have e3 : (List.map (fun b => Value.int IntKind.u8 (b.toNat : Int)) (b.take (64 * k))).length = 64 * k := by simp; omega
          rw [List.getElem?_append_right (show (cur.toList.take (64 * k)).length ≤ i by rw [e2]; omega), List.getElem?_append_right (show (List.map (fun b => Value.int IntKind.u8 (b.toNat : Int)) (b.take (64 * k))).length ≤ i by rw [e3]; omega), e2, e3]
          by_cases h7 : i - 64 * k < l.length
          · rw [List.getElem?_append_left (by simpa using h7), List.getElem?_append_left (by simpa using h7)]
          · rw [List.getElem?_append_right (show (List.map (fun b => Value.int IntKind.u8 (b.toNat : Int)) l).length ≤ _ by simp; omega), List.getElem?_append_right (show (List.map (fun b => Value.int IntKind.u8 (b.toNat : Int)) l).length ≤ _ by simp; omega)]
            simp only [List.length_map, List.getElem?_drop, List.map_drop]
            have e4 : 64 * k + l.length + (i - 64 * k - l.length) = i := by omega
            rw [e4, h5 i hi]
            simp [hi, List.getD_eq_getElem?_getD]
      · rw [List.getElem?_eq_none (by simp; omega), List.getElem?_eq_none (by simp [bytesOf, e1]; omega)]
  · refine ⟨rfl, rfl, rfl, by simp [World.setRow], fun i hi hn => ?_⟩
    simp only [World.setRow, Array.getElem?_modify]
    rw [if_neg (fun e => hn e.symm)]

set_option maxHeartbeats 4000000 in
set_option maxRecDepth 100000 in
theorem left_c (hU : UnsafeC) (w : World) (g bm : Nat) (s : St) (h : At w g bm s) (hs : s.Ok) (F : FuncId) (cap : Array Value) (c : Nat → Bool) (hc : Tells w F cap c (fun i => w.heap.size ≤ i)) :
    Calls Tryz.prog 58 #[.pointer (some ⟨g, 0, none⟩), .func (.func F) #[] cap] w fun e w' => e = .returned (.string (bs (s.left c))) ∧ Fr (fun _ => False) w w' := by
  have HA := hid h
  obtain ⟨⟨kv, h1, h2⟩, h3⟩ := h
  have c0 : w.cell? ⟨g, 0, none⟩ = some (.string (bs s.safe)) := cell_at h1 0
  have HS := hid hs
  have hlt : g < w.heap.size := lt_of_at h1
  obtain ⟨cp, hcp⟩ : ∃ cp, grownCap w s.safe.length 0 5 = cp := ⟨_, rfl⟩
  have hcp1 : s.safe.length ≤ cp := hcp ▸ grownCap_ge _ _ _ _
  have hz : (bs s.safe).size = s.safe.length := by simp [bs, ByteArray.size]
  have hconv := run_bytes_of_string (P := Tryz.prog) w 9 60 5 (bs s.safe) Tryz.underlying9 Tryz.underlying60 Tryz.underlying5
  rw [hz, hcp] at hconv
  have hR := hid (rowAt_new w s.safe cp hcp1)
  have hF1 := hid (show Fr (fun i => w.heap.size ≤ i) w (w.alloc (.cells (bytesRow (bs s.safe) cp) 5 ((bytesRow (bs s.safe) cp).size, (bytesRow (bs s.safe) cp).size + 1))).drew from ((Fr.refl _ w).alloc _).drew)
  have HLT := hid hlt
  clear h1 h2 h3 hs hcp hz hlt
  go_enter Tryz.func58, Tryz.ntmps58
  go_wp2_with fail
  have hA1 := At.keep HA.out hF1.out (by have := HLT.out; omega) (by obtain ⟨_, m, D, ho, _⟩ := HA.out; have := ho.lt; omega) (fun b cur hb => by have := lt_of_at hb; omega)
  have HA1 := hid hA1
  refine (hU _ g bm s hA1 HS.out).mono ?_
  clear hA1
  obtain ⟨W1, eW1⟩ : ∃ W1, W1 = (w.alloc (.cells (bytesRow (bs s.safe) cp) 5 ((bytesRow (bs s.safe) cp).size, (bytesRow (bs s.safe) cp).size + 1))).drew := ⟨_, rfl⟩
  rw [← eW1] at hR hF1 HA1 ⊢
  have hgb := hid (show w.heap.size < W1.heap.size by rw [eW1]; show w.heap.size < (w.alloc _).heap.size; simp)
  clear eW1 c0 hconv
  obtain ⟨gb, egb⟩ : ∃ gb, gb = w.heap.size := ⟨_, rfl⟩
  rw [← egb] at hR hgb ⊢
  have Egb := hid egb
  clear egb
  rintro e w2 ⟨v, rfl, ⟨a, vc, rfl, hlen, hv2, _⟩, hvl, hf2⟩
  have hnl : (List.map (fun (i : Nat) => (i : Int)) s.unl).length = s.unl.length := by simp
  rw [hnl] at hlen hv2 ⊢
  obtain ⟨L, hL⟩ : ∃ L, L = s.unl := ⟨_, rfl⟩
  rw [← hL] at hlen hv2 ⊢
  have HL := hid hL
  have HV := hid hv2
  have HF2 := hid hf2
  have HVL := hid hvl
  have HR2 := hid (hR.out.keep hf2 (fun f => f))
  have HA2 := hid (HA1.out.keep hf2 (fun f => f) (fun f => f) (fun _ _ _ f => f))
  clear hnl hL hv2 hf2 hvl
  obtain ⟨n, hn⟩ : ∃ n, n = s.safe.length := ⟨_, rfl⟩
  rw [← hn]
  have hncp : n ≤ cp := by omega
  have hn64 : n ≤ 262144 := by have := HS.out.safe; have := HS.out.n2; omega
  have HN := hid hn
  clear hn hcp1
  have hgw2 : gb < w2.heap.size := Nat.lt_of_lt_of_le hgb.out HF2.out.size
  go_wp2_with fail
  go_loopw [16] (fun v wr => ∃ k : Nat, v = .int .i64 k ∧ k ≤ L.length ∧ ∃ b, Hid (RowAt wr gb cp b) ∧ b.length = n ∧ Hid (leftGo c s.un k (L.drop k) b = s.left c) ∧ Hid (Fr (· = gb) w2 wr)) (fun i _ => L.length - (intOf i).toNat)
  case atStart => exact ⟨0, rfl, by omega, s.safe, HR2, HN.out.symm, hid (by rw [HL.out]; rfl), hid (Fr.refl _ _)⟩
  case round => 
    obtain ⟨k, rfl, hk, b, HRb, hb, HG, HFr⟩ := hrel
    by_cases hend : k = L.length
    · subst hend
      have HB := hid (row_back HRb.out)
      have HB2 : Sem.run Tryz.prog (convert 60 9 (.slice (some ⟨gb, 0, none⟩) n cp)) wr = .ok (.string (bs b)) wr := hb ▸ HB.out
      go_wp2
      go_ret
      refine ⟨?_, ?_⟩
      · have := HG.out
        rw [List.drop_length, leftGo] at this
        rw [this]
        rfl
      · refine ((hF1.out.trans HF2.out (fun _ _ f => f.elim)).trans HFr.out (fun i hi e => ?_)).mono (fun i hi e => ?_)
        · rw [e, Egb.out]; exact Nat.le_refl _
        · omega
    · have hk' : k < L.length := by omega
      obtain ⟨b0, o, cur, rfl, hb0, h3⟩ : ∃ b0 o cur, a = some ⟨b0, o, none⟩ ∧ w2.heap[b0]? = some (.cells cur 3) ∧ ∀ j, j < L.length → cur[o + j]? = some (.int .i64 ((List.map (fun (i : Nat) => (i : Int)) L).getD j 0)) := by
        rcases HV.out with h2 | h2
        · exfalso; have := congrArg List.length h2; simp at this; simp [this] at hk'
        · exact h2
      have hlv := HVL.out _ _ _ rfl
      obtain ⟨x, hx⟩ : ∃ x : Nat, x = L.getD k 0 := ⟨_, rfl⟩
      have hxe : (List.map (fun (i : Nat) => (i : Int)) L).getD k 0 = (x : Int) := by
        rw [hx]; simp [List.getD_eq_getElem?_getD, List.getElem?_eq_getElem hk']
      have ce : wr.cell? ⟨b0, o + k, none⟩ = some (.int .i64 x) := by
        rw [← hxe]
        refine (cell_at (HFr.out.at hb0 (fun e => ?_)) _).trans (h3 k hk')
        have h4 := hgb.out
        simp only at hlv
        omega
      have hxm : x ∈ s.unl := by rw [← HL.out, hx]; simp [List.getD_eq_getElem?_getD, List.getElem?_eq_getElem hk']
      have hxu : x < s.n ∧ (s.un x).isSome = true := by simpa [St.unl] using hxm
      obtain ⟨l, hl⟩ : ∃ l, s.un x = some l := Option.isSome_iff_exists.1 hxu.2
      have hl64 := (HS.out.un x l hl).2
      have hnn : n = 64 * s.n := HN.out.trans HS.out.safe
      have hx64 : 64 * x + l.length ≤ n := by omega
      have HSTEP := hid (leftGo_lt (c := c) (un := s.un) hk' b)
      rw [← hx, hl, Option.getD_some] at HSTEP
      have HG2 := hid (HSTEP.out.symm.trans HG.out)
      have HX := hid hx
      have hfw : Fr (fun i => w.heap.size ≤ i) w wr := (hF1.out.trans HF2.out (fun _ _ f => f.elim)).trans HFr.out (fun i hi e => by rw [e, Egb.out]; exact Nat.le_refl _)
      have HCALL := hid (hc.2 k wr hfw)
      have HLL := hid hl
      have HW := hid (And.intro hxu hl64)
      have hx1 : x ≤ 4096 := by have := HS.out.n2; omega
      clear h3 hlv hxe hxm hxu hl hl64 hnn hfw hx HG HSTEP hend
      go_wp2_with fail
      rw [hc.1, Oper.upon_enter]
      refine HCALL.out.mono ?_
      rintro e w4 ⟨rfl, hf4⟩
      have HF4 := hid (HFr.out.trans hf4 (fun _ _ f => f.elim))
      have HR4 := hid (HRb.out.keep hf4 (fun f => f))
      have hA4 := hid (HA2.out.keep HF4.out (by have := Egb.out; have := HLT.out; omega) (by have := Egb.out; obtain ⟨_, m, D, ho, _⟩ := HA.out; have := ho.lt; omega) (fun b' cur hb e => by
        subst e
        obtain ⟨c1, d1, _⟩ := HR2.out
        rw [d1] at hb
        cases hb))
      clear hf4 ce
      cases hck : c k with
      | false =>
        have HCK := hid hck
        clear hck
        go_wp2_with fail
        have hG := HG2.out
        rw [HCK.out, if_neg (by simp)] at hG
        exact ⟨⟨k + 1, rfl, by omega, b, HR4, hb, hid hG, HF4⟩, by simp [intOf]; omega⟩
      | true =>
        have HCK := hid hck
        clear hck
        have hA4d : At w4.drew g bm s := hA4.out.keep (S := fun _ => False) (Fr.refl _ _).drew (fun f => f) (fun f => f) (fun _ _ _ f => f)
        have hlook := look_un hA4d x (by omega) false
        rw [HLL.out] at hlook
        simp only [Bool.false_eq_true, if_false, Option.getD_some] at hlook
        have hR4d : RowAt w4.drew gb cp b := HR4.out
        obtain ⟨w5, hw5, hR5, hf5⟩ := row_copy hR4d hb x l hx64 3
        have ex : ((x : Int) * 64).toNat = 64 * x := by omega
        have ex2 : (x : Int) * 64 ≤ n := by omega
        have ex3 : IntKind.i64.wrap ((x : Int) * 64) = (x : Int) * 64 := by rw [IntKind.wrap_i64]; omega
        have ex4 : ¬ cp = 64 * x := by have := HW.out.2; omega
        clear hA4d
        obtain ⟨⟨kv4, h41, _⟩, _⟩ := hA4.out
        have c41 : w4.cell? ⟨g, 1, none⟩ = some (.map (some bm)) := cell_at h41 1
        have HR5 := hid hR5
        have HF5 := hid hf5
        clear h41 hR5 hf5 hR4d
        go_wp2_with fail
        go_region
        go_wp2_with fail
        have hG := HG2.out
        rw [HCK.out, if_pos rfl] at hG
        refine ⟨⟨k + 1, rfl, by omega, putAt b x l, HR5, ?_, hid hG, hid ((HF4.out.drew).trans HF5.out (fun _ _ e => e))⟩, by simp [intOf]; omega⟩
        simp only [putAt, List.length_append, List.length_take, List.length_drop]; omega

end Go.Proofs.YtjkhcfdflcndkaaGreat.D
