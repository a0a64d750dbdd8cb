/-
  Tokens; how a slice of tokens reads; Alike and Same. No condition but the library's variables as laid.
-/
import Derived.Test.YtbmfmnkfdfdjbaaDoorLK
import Derived.Test.YtbmfmnkfdfdjbaaDoorM1
import Derived.OwnWalk
namespace Go.Proofs.YtbmfmnkfdfdjbaaDoor.D
open Go.RowKit Go.Shelf
set_option linter.unusedVariables false
set_option linter.unusedSimpArgs false

def TksPost (w : World) (s : List UInt8) (x : Ending) (w' : World) : Prop :=
  Fr (fun _ => False) w w' ∧ (∀ L, lexP s = .ok L → ∃ v, x = .returned (.tuple #[v, .int .i64 0, .int .i64 0]) ∧ Toks w' w.heap.size v L) ∧
    (∀ j c, lexP s = .error (j, c) → x = .returned (.tuple #[.slice none 0 0, .int .i64 (j : Nat), .int .i64 c]))

set_option maxRecDepth 100000 in
theorem tokens_c (w : World) (s : List UInt8) (hV : Vars w) (h2 : 2 < w.heap.size) :
    Calls Tryd.prog 10 #[.string (bs s)] w (TksPost w s) := by
  have hz := size_bs s
  by_cases h : 16384 < s.length
  · have hg : (16384 : Int) < (s.length : Int) := by omega
    have HP := hid (show lexP s = .error (0, 54) by unfold lexP; rw [if_pos h])
    clear h hV h2
    go_enter Tryd.func10, Tryd.ntmps10
    go_wp2_with fail
    go_ret3
    exact ⟨Fr.refl _ _, fun L hL => (by rw [HP.out] at hL; cases hL), fun j c hL => (by rw [HP.out] at hL; injection hL with hL; injection hL with e1 e2; subst e1 e2; rfl)⟩
  · have hg : decide ((16384 : Int) < (s.length : Int)) = false := by simp; omega
    have HP := hid (show lexP s = lexAt s 0 0 by unfold lexP; rw [if_neg h])
    have HR := hid (read_c w s hV h2 (by omega))
    clear h hV h2
    go_enter Tryd.func10, Tryd.ntmps10
    go_wp2_with fail
    refine HR.out.mono ?_
    rintro e w' ⟨hf, hok, herr⟩
    have HF := hid hf
    cases hL : lexAt s 0 0 with
    | ok L =>
      obtain ⟨v, rfl, ht⟩ := hok L hL
      obtain ⟨vp, vn, vc, rfl⟩ := ht.form
      have HT := hid ht
      have HL := hid hL
      clear hok herr hf ht hL
      go_wp2_with fail
      go_ret3
      exact ⟨HF.out, fun L2 h2 => (by rw [HP.out, HL.out] at h2; injection h2 with h2; subst h2; exact ⟨_, rfl, HT.out⟩), fun j c h2 => (by rw [HP.out, HL.out] at h2; cases h2)⟩
    | error x =>
      obtain ⟨j, c⟩ := x
      obtain rfl := herr j c hL
      have HL := hid hL
      clear hok herr hf hL
      go_wp2_with fail
      go_ret3
      exact ⟨HF.out, fun L2 h2 => (by rw [HP.out, HL.out] at h2; cases h2), fun j' c' h2 => (by rw [HP.out, HL.out] at h2; injection h2 with h2; injection h2 with e1 e2; subst e1 e2; rfl)⟩

/-! ### a slice of tokens -/
theorem tokCells_at : ∀ (L : List Tok) (i : Nat) (t : Tok), L[i]? = some t →
    (tokCells L)[4 * i]? = some (.int .i64 t.k) ∧ (tokCells L)[4 * i + 1]? = some (.string (bs t.l)) ∧ (tokCells L)[4 * i + 2]? = some (.int .i64 (t.a : Int)) ∧ (tokCells L)[4 * i + 3]? = some (.int .i64 (t.e : Int))
  | [], i, t, h => by simp at h
  | x :: L, 0, t, h => by
    simp at h
    subst h
    simp [tokCells]
  | x :: L, i + 1, t, h => by
    have ih := tokCells_at L i t (by simpa using h)
    have e : tokCells (x :: L) = [.int .i64 x.k, .string (bs x.l), .int .i64 (x.a : Int), .int .i64 (x.e : Int)] ++ tokCells L := by simp [tokCells]
    have q : ∀ m, (tokCells (x :: L))[4 * (i + 1) + m]? = (tokCells L)[4 * i + m]? := fun m => by
      rw [e, List.getElem?_append_right (by simp; omega)]
      congr 1
      simp
      omega
    exact ⟨(q 0).trans ih.1, (q 1).trans ih.2.1, (q 2).trans ih.2.2.1, (q 3).trans ih.2.2.2⟩
/-- The cells of a token that lies in block g, from cell o on. -/
def TC (w : World) (g o : Nat) (t : Tok) : Prop :=
  w.cell? ⟨g, o, none⟩ = some (.int .i64 t.k) ∧ w.cell? ⟨g, o + 1, none⟩ = some (.string (bs t.l)) ∧ w.cell? ⟨g, o + 2, none⟩ = some (.int .i64 (t.a : Int)) ∧ w.cell? ⟨g, o + 3, none⟩ = some (.int .i64 (t.e : Int))
/-- A slice that reads as these tokens. -/
def TV (w : World) (v : Value) (L : List Tok) : Prop :=
  ∃ A cap, v = .slice A L.length cap ∧ L.length ≤ cap ∧ (L = [] ∨ ∃ g o, A = some ⟨g, o, none⟩ ∧ ∀ i t, L[i]? = some t → TC w g (o + 4 * i) t)
theorem TC.stay {w w' : World} {g o : Nat} {t : Tok} (h : TC w g o t) (hf : Fr (fun _ => False) w w') : TC w' g o t :=
  ⟨cells_stay2 hf h.1, cells_stay2 hf h.2.1, cells_stay2 hf h.2.2.1, cells_stay2 hf h.2.2.2⟩
theorem TV.stay {w w' : World} {v : Value} {L : List Tok} (h : TV w v L) (hf : Fr (fun _ => False) w w') : TV w' v L := by
  obtain ⟨A, cap, h1, h2, h3⟩ := h
  refine ⟨A, cap, h1, h2, h3.imp_right ?_⟩
  rintro ⟨g, o, e, h4⟩
  exact ⟨g, o, e, fun i t hi => (h4 i t hi).stay hf⟩
theorem Toks.tv {w : World} {B : Nat} {v : Value} {L : List Tok} (h : Toks w B v L) : TV w v L := by
  have hlen := tokCells_len L
  rcases h.2 with ⟨rfl, h0⟩ | ⟨g, cap, cur, rfl, h2, h3, h4, h5, h6, h7⟩
  · exact ⟨none, 0, by rw [h0], by omega, Or.inl (List.length_eq_zero_iff.1 h0)⟩
  · refine ⟨_, cap, rfl, h4, Or.inr ⟨g, 0, rfl, fun i t hi => ?_⟩⟩
    have hil : i < L.length := (List.getElem?_eq_some_iff.1 hi).1
    have hc : ∀ m u, m < 4 → (tokCells L)[4 * i + m]? = some u → w.cell? ⟨g, 0 + 4 * i + m, none⟩ = some u := fun m u hm hu => by
      rw [cell_at h3, Nat.zero_add]
      rw [← h7, List.getElem?_take, if_pos (by omega)] at hu
      simpa using hu
    obtain ⟨q0, q1, q2, q3⟩ := tokCells_at L i t hi
    exact ⟨hc 0 _ (by omega) q0, hc 1 _ (by omega) q1, hc 2 _ (by omega) q2, hc 3 _ (by omega) q3⟩
/-- Its own tokens i to j. -/
theorem TV.one {w : World} {g o : Nat} {t : Tok} {c : Nat} (h : TC w g o t) (hc : 1 ≤ c) : TV w (.slice (some ⟨g, o, none⟩) 1 c) [t] :=
  ⟨_, c, rfl, hc, Or.inr ⟨g, o, rfl, fun i u hi => by
    cases i with
    | zero => simp at hi; subst hi; exact h
    | succ i => simp at hi⟩⟩

/-! ### Alike -/
def alikeB (L M : List Tok) : Bool := decide (L.map (fun t => (t.k, t.l)) = M.map (fun t => (t.k, t.l)))
theorem alike_al {L M : List Tok} : alikeB L M = true ↔ Al L M := by unfold alikeB Al; simp
theorem alike_len {L M : List Tok} (h : L.length ≠ M.length) : alikeB L M = false := by
  unfold alikeB
  simp only [decide_eq_false_iff_not]
  intro e
  have := congrArg List.length e
  simp at this
  omega
theorem alike_no {L M : List Tok} {i : Nat} {t u : Tok} (h1 : L[i]? = some t) (h2 : M[i]? = some u) (h : ¬ (t.k = u.k ∧ t.l = u.l)) : alikeB L M = false := by
  unfold alikeB
  simp only [decide_eq_false_iff_not]
  intro e
  have := congrArg (·[i]?) e
  simp only [List.getElem?_map, h1, h2, Option.map_some, Option.some.injEq, Prod.mk.injEq] at this
  exact h this
theorem alike_yes {L M : List Tok} (hl : L.length = M.length) (h : ∀ (i : Nat) (t u : Tok), L[i]? = some t → M[i]? = some u → t.k = u.k ∧ t.l = u.l) : alikeB L M = true := by
  unfold alikeB
  simp only [decide_eq_true_eq]
  apply List.ext_getElem?
  intro i
  simp only [List.getElem?_map]
  by_cases hi : i < L.length
  · have h1 : L[i]? = some L[i] := List.getElem?_eq_getElem hi
    have h2 : M[i]? = some (M[i]'(by omega)) := List.getElem?_eq_getElem (by omega)
    have := h i _ _ h1 h2
    rw [h1, h2]
    simp [this.1, this.2]
  · rw [List.getElem?_eq_none (by omega), List.getElem?_eq_none (by omega)]
set_option maxRecDepth 100000 in
set_option maxHeartbeats 1000000 in
theorem alike_c (w : World) (a b : Value) (L M : List Tok) (hL : TV w a L) (hM : TV w b M) (h1 : L.length ≤ 1000000) (h2 : M.length ≤ 1000000) :
    Calls Tryd.prog 12 #[a, b] w fun e w' => e = .returned (.bool (alikeB L M)) ∧ Fr (fun _ => False) w w' := by
  obtain ⟨A, ca, rfl, hca, HA⟩ := hL
  obtain ⟨B, cb, rfl, hcb, HB⟩ := hM
  by_cases hl : L.length = M.length
  · obtain ⟨n, hn⟩ : ∃ n, n = L.length := ⟨_, rfl⟩
    have hn2 : M.length = n := by omega
    have hn6 : n ≤ 1000000 := by omega
    have e0 : ((n : Int) != (n : Int)) = false := by simp
    have HA := hid HA
    have HB := hid HB
    have HN := hid (And.intro hn hn2)
    rw [hn2, ← hn]
    clear hl hca hcb hn hn2
    go_enter Tryd.func12, Tryd.ntmps12
    go_wp2_with fail
    go_loopw [5] (fun v wx => ∃ k : Nat, v = .int .i64 k ∧ k ≤ n ∧ Hid (∀ (i : Nat) (t u : Tok), i < k → L[i]? = some t → M[i]? = some u → t.k = u.k ∧ t.l = u.l) ∧ Hid (Fr (fun _ => False) w wx)) (fun v _ => n - (intOf v).toNat)
    case atStart => exact ⟨0, rfl, by omega, hid (fun i t u h => by omega), hid (Fr.refl _ _)⟩
    case round =>
      obtain ⟨k, rfl, hk, HE, HF⟩ := hrel
      by_cases hkn : k < n
      · have hLk : k < L.length := by have := HN.out.1; omega
        have hMk : k < M.length := by have := HN.out.2; omega
        obtain ⟨t, ht⟩ : ∃ t, L[k]? = some t := ⟨_, List.getElem?_eq_getElem hLk⟩
        obtain ⟨u, hu⟩ : ∃ u, M[k]? = some u := ⟨_, List.getElem?_eq_getElem hMk⟩
        obtain ⟨g, o, rfl, hg⟩ := HA.out.resolve_left (by rintro rfl; simp at hLk)
        obtain ⟨g', o', rfl, hg'⟩ := HB.out.resolve_left (by rintro rfl; simp at hMk)
        obtain ⟨a0, a1, -, -⟩ := (hg k t ht).stay HF.out
        obtain ⟨b0, b1, -, -⟩ := (hg' k u hu).stay HF.out
        have HT := hid ht
        have HU := hid hu
        have HKN := hid hkn
        clear hg hg' ht hu hLk hMk
        rw [Nat.mul_comm] at a0 a1 b0 b1
        by_cases hk0 : t.k = u.k
        · have e1 : (t.k != u.k) = false := by simp [hk0]
          by_cases hl0 : t.l = u.l
          · have q1 : (t.l == u.l) = true := by simpa using hl0
            have q2 : (!t.l == u.l) = false := by rw [q1]; rfl
            have HE2 := hid (show ∀ (i : Nat) (t u : Tok), i < k + 1 → L[i]? = some t → M[i]? = some u → t.k = u.k ∧ t.l = u.l from fun i t' u' hi h1 h2 => by
              by_cases e : i = k
              · subst e
                rw [HT.out] at h1
                rw [HU.out] at h2
                injection h1 with h1
                injection h2 with h2
                subst h1 h2
                exact ⟨hk0, hl0⟩
              · exact HE.out i t' u' (by omega) h1 h2)
            clear hl0 hk0
            go_wp2_with fail
            go_quiet (fail)
            go_wp2_with fail
            go_roundw
            case rel => exact ⟨k + 1, by go_num, HKN.out, HE2, hid (HF.out.trans fr_drewN (fun _ _ f => f))⟩
            case measure => have := HKN.out; simp [intOf]; omega
          · have q1 : (t.l == u.l) = false := by simpa using hl0
            have q2 : (!t.l == u.l) = true := by rw [q1]; rfl
            have HX := hid (alike_no HT.out HU.out (fun h => hl0 h.2))
            clear hl0 hk0
            go_wp2_with fail
            go_quiet (fail)
            go_wp2_with fail
            go_ret
            exact ⟨by rw [HX.out]; rfl, HF.out.trans fr_drewN (fun _ _ f => f)⟩
        · have e1 : (t.k != u.k) = true := by simp [hk0]
          have HX := hid (alike_no HT.out HU.out (fun h => hk0 h.1))
          clear hk0
          go_wp2_with fail
          go_quiet (fail)
          go_wp2_with fail
          go_ret
          exact ⟨by rw [HX.out]; rfl, HF.out.trans fr_drewN (fun _ _ f => f)⟩
      · have hkn' : decide ((k : Int) < (n : Int)) = false := by simp; omega
        have HX := hid (show alikeB L M = true from alike_yes (by have := HN.out; omega) (fun i t u h1 h2 => HE.out i t u (by have := HN.out.1; have := (List.getElem?_eq_some_iff.1 h1).1; omega) h1 h2))
        go_wp2_with fail
        go_ret
        exact ⟨by rw [HX.out]; rfl, HF.out⟩
  · have e0 : ((L.length : Int) != (M.length : Int)) = true := by simp; omega
    have HX := hid (alike_len hl)
    clear hl HA HB hca hcb
    go_enter Tryd.func12, Tryd.ntmps12
    go_wp2_with fail
    go_ret
    exact ⟨by rw [HX.out]; rfl, Fr.refl _ _⟩

end Go.Proofs.YtbmfmnkfdfdjbaaDoor.D
