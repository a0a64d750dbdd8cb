/-
  Tokens; how a slice of tokens reads; Alike and Same. No condition but the library's variables as laid.
-/
import Derived.Test.YtbmfmnkfdfdjbaaGreatDoorLK
import Derived.Test.YtbmfmnkfdfdjbaaGreatDoorM1
import Derived.OwnWalk
namespace Go.Proofs.YtbmfmnkfdfdjbaaGreatDoor.D
open Go.RowKit Go.Shelf
set_option linter.unusedVariables false
set_option linter.unusedSimpArgs false

def TksPost (w : World) (s : List UInt8) (x : Ending) (w' : World) : Prop :=
  Fr (fun _ => False) w w' ∧ (∀ L, lexP s = .ok L → ∃ v, x = .returned (.tuple #[v, .int .i64 0, .int .i64 0]) ∧ Toks w' w.heap.size v L) ∧
    (∀ j c, lexP s = .error (j, c) → x = .returned (.tuple #[.slice none 0 0, .int .i64 (j : Nat), .int .i64 c]))

set_option maxRecDepth 100000 in
theorem tokens_c (w : World) (s : List UInt8) (hV : Vars w) (h2 : 2 < w.heap.size) :
    Calls Tryz.prog 9 #[.string (bs s)] w (TksPost w s) := by
  have hz := size_bs s
  by_cases h : 16384 < s.length
  · have hg : (16384 : Int) < (s.length : Int) := by omega
    have HP := hid (show lexP s = .error (0, 54) by unfold lexP; rw [if_pos h])
    clear h hV h2
    go_enter Tryz.func9, Tryz.ntmps9
    go_wp2_with fail
    go_ret3
    exact ⟨Fr.refl _ _, fun L hL => (by rw [HP.out] at hL; cases hL), fun j c hL => (by rw [HP.out] at hL; injection hL with hL; injection hL with e1 e2; subst e1 e2; rfl)⟩
  · have hg : decide ((16384 : Int) < (s.length : Int)) = false := by simp; omega
    have HP := hid (show lexP s = lexAt s 0 0 by unfold lexP; rw [if_neg h])
    have HR := hid (read_c w s hV h2 (by omega))
    clear h hV h2
    go_enter Tryz.func9, Tryz.ntmps9
    go_wp2_with fail
    refine HR.out.mono ?_
    rintro e w' ⟨hf, hok, herr⟩
    have HF := hid hf
    cases hL : lexAt s 0 0 with
    | ok L =>
      obtain ⟨v, rfl, ht⟩ := hok L hL
      obtain ⟨vp, vn, vc, rfl⟩ := ht.form
      have HT := hid ht
      have HL := hid hL
      clear hok herr hf ht hL
      go_wp2_with fail
      go_ret3
      exact ⟨HF.out, fun L2 h2 => (by rw [HP.out, HL.out] at h2; injection h2 with h2; subst h2; exact ⟨_, rfl, HT.out⟩), fun j c h2 => (by rw [HP.out, HL.out] at h2; cases h2)⟩
    | error x =>
      obtain ⟨j, c⟩ := x
      obtain rfl := herr j c hL
      have HL := hid hL
      clear hok herr hf hL
      go_wp2_with fail
      go_ret3
      exact ⟨HF.out, fun L2 h2 => (by rw [HP.out, HL.out] at h2; cases h2), fun j' c' h2 => (by rw [HP.out, HL.out] at h2; injection h2 with h2; injection h2 with e1 e2; subst e1 e2; rfl)⟩

/-! ### a slice of tokens -/
theorem tokCells_at : ∀ (L : List Tok) (i : Nat) (t : Tok), L[i]? = some t →
    (tokCells L)[4 * i]? = some (.int .i64 t.k) ∧ (tokCells L)[4 * i + 1]? = some (.string (bs t.l)) ∧ (tokCells L)[4 * i + 2]? = some (.int .i64 (t.a : Int)) ∧ (tokCells L)[4 * i + 3]? = some (.int .i64 (t.e : Int))
  | [], i, t, h => by simp at h
  | x :: L, 0, t, h => by
    simp at h
    subst h
    simp [tokCells]
  | x :: L, i + 1, t, h => by
    have ih := tokCells_at L i t (by simpa using h)
    have e : tokCells (x :: L) = [.int .i64 x.k, .string (bs x.l), .int .i64 (x.a : Int), .int .i64 (x.e : Int)] ++ tokCells L := by simp [tokCells]
    have q : ∀ m, (tokCells (x :: L))[4 * (i + 1) + m]? = (tokCells L)[4 * i + m]? := fun m => by
      rw [e, List.getElem?_append_right (by simp; omega)]
      congr 1
      simp
      omega
    exact ⟨(q 0).trans ih.1, (q 1).trans ih.2.1, (q 2).trans ih.2.2.1, (q 3).trans ih.2.2.2⟩
/-- The cells of a token that lies in block g, from cell o on. -/
def TC (w : World) (g o : Nat) (t : Tok) : Prop :=
  w.cell? ⟨g, o, none⟩ = some (.int .i64 t.k) ∧ w.cell? ⟨g, o + 1, none⟩ = some (.string (bs t.l)) ∧ w.cell? ⟨g, o + 2, none⟩ = some (.int .i64 (t.a : Int)) ∧ w.cell? ⟨g, o + 3, none⟩ = some (.int .i64 (t.e : Int))
/-- A slice that reads as these tokens. -/
def TV (w : World) (v : Value) (L : List Tok) : Prop :=
  ∃ A cap, v = .slice A L.length cap ∧ L.length ≤ cap ∧ (L = [] ∨ ∃ g o, A = some ⟨g, o, none⟩ ∧ ∀ i t, L[i]? = some t → TC w g (o + 4 * i) t)
theorem TC.stay {w w' : World} {g o : Nat} {t : Tok} (h : TC w g o t) (hf : Fr (fun _ => False) w w') : TC w' g o t :=
  ⟨cells_stay2 hf h.1, cells_stay2 hf h.2.1, cells_stay2 hf h.2.2.1, cells_stay2 hf h.2.2.2⟩
theorem TV.stay {w w' : World} {v : Value} {L : List Tok} (h : TV w v L) (hf : Fr (fun _ => False) w w') : TV w' v L := by
  obtain ⟨A, cap, h1, h2, h3⟩ := h
  refine ⟨A, cap, h1, h2, h3.imp_right ?_⟩
  rintro ⟨g, o, e, h4⟩
  exact ⟨g, o, e, fun i t hi => (h4 i t hi).stay hf⟩
theorem Toks.tv {w : World} {B : Nat} {v : Value} {L : List Tok} (h : Toks w B v L) : TV w v L := by
  have hlen := tokCells_len L
  rcases h.2 with ⟨rfl, h0⟩ | ⟨g, cap, cur, rfl, h2, h3, h4, h5, h6, h7⟩
  · exact ⟨none, 0, by rw [h0], by omega, Or.inl (List.length_eq_zero_iff.1 h0)⟩
  · refine ⟨_, cap, rfl, h4, Or.inr ⟨g, 0, rfl, fun i t hi => ?_⟩⟩
    have hil : i < L.length := (List.getElem?_eq_some_iff.1 hi).1
    have hc : ∀ m u, m < 4 → (tokCells L)[4 * i + m]? = some u → w.cell? ⟨g, 0 + 4 * i + m, none⟩ = some u := fun m u hm hu => by
      rw [cell_at h3, Nat.zero_add]
      rw [← h7, List.getElem?_take, if_pos (by omega)] at hu
      simpa using hu
    obtain ⟨q0, q1, q2, q3⟩ := tokCells_at L i t hi
    exact ⟨hc 0 _ (by omega) q0, hc 1 _ (by omega) q1, hc 2 _ (by omega) q2, hc 3 _ (by omega) q3⟩
/-- Its own tokens i to j. -/
theorem TV.one {w : World} {g o : Nat} {t : Tok} {c : Nat} (h : TC w g o t) (hc : 1 ≤ c) : TV w (.slice (some ⟨g, o, none⟩) 1 c) [t] :=
  ⟨_, c, rfl, hc, Or.inr ⟨g, o, rfl, fun i u hi => by
    cases i with
    | zero => simp at hi; subst hi; exact h
    | succ i => simp at hi⟩⟩


end Go.Proofs.YtbmfmnkfdfdjbaaGreatDoor.D
