/-
  Tokens appended to tokens; an error's number. No condition.
-/
import Derived.Test.YtbmfmnkfdfdjbaaDoorT4
import Derived.Laws.OwnMore
import Derived.Lib.AppendZeros
namespace Go.Proofs.YtbmfmnkfdfdjbaaDoor.D
open Go.RowKit Go.Shelf
set_option linter.unusedVariables false
set_option linter.unusedSimpArgs false

theorem tokCells_app (L M : List Tok) : tokCells (L ++ M) = tokCells L ++ tokCells M := by simp [tokCells]
theorem tokCells_one (L : List Tok) : ∀ u ∈ tokCells L, u.oneCell' = true := by
  intro u hu
  unfold tokCells at hu
  obtain ⟨t, _, hu⟩ := List.mem_flatMap.1 hu
  simp at hu
  rcases hu with rfl | rfl | rfl | rfl <;> rfl
theorem toks_new (W : World) : Toks (W.alloc (.cells #[] 32)) W.heap.size (.slice (some ⟨W.heap.size, 0, none⟩) 0 0) [] := by
  have := World.ownsRow_lit (e := 32) (size := 4) (base := W.heap.size) W #[] 0 (Nat.le_refl _) (by unfold maxLen; omega) rfl
  exact this
theorem append_toks (W : World) (B B2 : Nat) (v u : Value) (L M : List Tok) (h : Toks W B v L) (hu : Toks W B2 u M) (hl : L.length + M.length < 100000) (hB : B ≤ W.heap.size) :
    ∃ v' W', (Builtin.append_ #[26, 26] 26 #[v, u]).run Tryd.prog W = .ok v' W' ∧ Toks W' B v' (L ++ M) ∧ Fr (fun i => v.ownBlock = some i) W W' := by
  obtain ⟨i0, hi, hz0, hz1, hz2⟩ := info_parts (show (Tryd.prog.info? 32).map (fun i => (i.zero, i.size, i.bytes)) = some (some (.agg #[.int .i64 0, .string ⟨#[]⟩, .int .i64 0, .int .i64 0]), 4, 40) by kernel_rfl)
  rcases hu.2 with ⟨rfl, h0⟩ | ⟨g, cap, cur, rfl, h2, h3, h4, h5, h6, h7⟩
  · have hM : M = [] := List.length_eq_zero_iff.1 h0
    subst hM
    refine ⟨v, W, run_append_owned_none (P := Tryd.prog) W B 26 26 32 i0 4 Tryd.underlying26 hi v L.length (tokCells L) h, ?_, Fr.refl _ _⟩
    rw [List.append_nil]
    exact h
  · obtain ⟨v', w2, hrun, hown2, hgr2, hnil⟩ := run_append_own (P := Tryd.prog) W B 26 26 32 i0 _ 4 40 Tryd.underlying26 hi hz0 hz1 hz2 rfl (by decide)
      v L.length (tokCells L) h ⟨g, 0, none⟩ M.length cap (tokCells M) (tokCells_len M) (by
        intro j x hx
        have e1 : (⟨g, 0, none⟩ : Addr).add j = ⟨g, j, none⟩ := by unfold Addr.add; split <;> simp_all
        rw [e1, cell_at h3]
        have hj : j < (tokCells M).length := (List.getElem?_eq_some_iff.1 hx).1
        rw [tokCells_len] at hj
        rw [← h7, List.getElem?_take, if_pos hj] at hx
        simpa using hx) (tokCells_one M) (by unfold maxLen; omega) (by omega) hB
    refine ⟨v', w2, hrun, ?_, ⟨hgr2.os, hgr2.tape, hgr2.output, hgr2.size, fun i hi hn => hgr2.block i hi (fun e => hn (by simpa using e.symm))⟩⟩
    unfold Toks
    rw [tokCells_app, List.length_append]
    exact hown2

theorem own_lt {g i : Nat} {n c : Nat} (hi : i < g) (e : (Value.slice (some ⟨g, 0, none⟩) n c).ownBlock = some i) : False := by
  have e : g = i := by simpa [Value.ownBlock] using e
  omega
/-- An append that is wanted, by the run of its own. -/
theorem wpList_append_run_g (w : World) {ops : Array Oper} {rest : List Oper} {o : Oper} {a : Act} {Q : Exit → Act → World → Prop} (hgd : Region.wanted o (yielded ops a.tmps) = true) (s x : Operand) (t tn : TypeId)
    (ho : o.op = .call { callee := .builtin .append, args := #[s, x], argTypes := #[t, tn] }) (vs vx : Value) (hs : a.eval s = vs) (hx : a.eval x = vx)
    (v' : Value) (w' : World) (hr : (Builtin.append_ #[t, tn] o.type #[vs, vx]).run Tryd.prog w = .ok v' w') (h : wpList Tryd.prog ops Q rest (a.put o.dst v') w') : wpList Tryd.prog ops Q (o :: rest) a w :=
  wpList_step fun K hK => by
    simp only [hgd, if_true]
    exact Lib.wp_append_run w s x t tn ho vs vx hs hx v' w' hr (hK _ _ h)
theorem slice_to {P : Program} (t : TypeId) (ht : P.underlying t = some .string) (w : World) (l : List UInt8) (b : Int) (h1 : 0 ≤ b) (h2 : b ≤ l.length) :
    (Instr.slice t (.string (bs l)) none (some (.int .i64 b)) none).run P w = .ok (.string (bs (l.take b.toNat))) w := by
  have h := slice_str t ht w l 0 b (by omega) h1 h2
  have e : (Instr.slice t (.string (bs l)) none (some (.int .i64 b)) none).run P w = (Instr.slice t (.string (bs l)) (some (.int .i64 0)) (some (.int .i64 b)) none).run P w := rfl
  rw [e, h]
  simp
theorem tok_err {s : List UInt8} {i : Nat} {c : Int} (h : tok1 s i = .error c) : c = 50 ∨ c = 51 ∨ c = 52 := by
  unfold tok1 at h
  repeat' split at h
  all_goals first
    | (injection h with h; omega)
    | cases h
theorem lex_err (s : List UInt8) : ∀ (d i n j : Nat) (c : Int), s.length - i ≤ d → i ≤ s.length → lexAt s i n = .error (j, c) → 50 ≤ c ∧ c ≤ 53
  | d, i, n, j, c, hd, hi, h => by
    have hle := ign_le (s.drop i)
    rw [List.length_drop] at hle
    rw [lexAt_un s i n hi] at h
    split at h
    · injection h with h
      injection h with e1 e2
      omega
    · split at h
      · cases h
      · split at h
        · injection h with h
          injection h with e1 e2
          omega
        · rename_i h1 h2 h3
          cases ht : tok1 s (i + (ign (s.drop i)).1) with
          | error c' =>
            rw [ht] at h
            injection h with h
            injection h with e1 e2
            have := tok_err ht
            omega
          | ok p =>
            obtain ⟨k, l, e⟩ := p
            rw [ht] at h
            have hk := tok1_le (by omega) ht
            simp only at h
            cases hl : lexAt s e (n + 1) with
            | ok L2 => rw [hl] at h; cases h
            | error x =>
              rw [hl] at h
              injection h with h
              subst h
              cases d with
              | zero => omega
              | succ d => exact lex_err s d e (n + 1) j c (by omega) (by omega) hl
theorem lexP_err {s : List UInt8} {j : Nat} {c : Int} (h : lexP s = .error (j, c)) : (c = 54 ∧ j = 0 ∧ 16384 < s.length) ∨ (50 ≤ c ∧ c ≤ 53 ∧ s.length ≤ 16384) := by
  unfold lexP at h
  split at h
  · injection h with h
    injection h with e1 e2
    exact Or.inl ⟨e2.symm, e1.symm, by assumption⟩
  · exact Or.inr ⟨(lex_err s _ 0 0 j c (Nat.le_refl _) (by omega) h).1, (lex_err s _ 0 0 j c (Nat.le_refl _) (by omega) h).2, by omega⟩

end Go.Proofs.YtbmfmnkfdfdjbaaDoor.D
