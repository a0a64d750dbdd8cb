/-
  Tokens apart; with more that is ignored; in what is ahead of a place; ahead of another document. No condition.
-/
import Derived.Test.YtbmfmnkfdfdjbaaDoorM1
namespace Go.Proofs.YtbmfmnkfdfdjbaaDoor.D
open Go.RowKit Go.Shelf
set_option linter.unusedVariables false
set_option linter.unusedSimpArgs false

/-! ### places -/
/-- The tokens lie in order and apart, from a place on. -/
def Row (n : Nat) : Nat → List Tok → Prop
  | _, [] => True
  | i, t :: L => i ≤ t.a ∧ t.a < t.e ∧ t.e ≤ n ∧ Row n t.e L
theorem Lx.row {s : List UInt8} {i : Nat} {L : List Tok} (h : Lx s i L) : Row s.length i L := by
  induction h with
  | nil hi hg => trivial
  | cons hi ha hg ht hL ih =>
    have := tok1_le ha ht
    exact ⟨hi, this.1, this.2, ih⟩
theorem Lx.toks {s : List UInt8} {i : Nat} {L : List Tok} (h : Lx s i L) : ∀ t ∈ L, t.a < s.length ∧ tok1 s t.a = .ok (t.k, t.l, t.e) := by
  induction h with
  | nil hi hg => intro t ht; cases ht
  | cons hi ha hg ht hL ih =>
    intro t hm
    rcases List.mem_cons.1 hm with rfl | hm
    · exact ⟨ha, ht⟩
    · exact ih t hm

/-! ### a token by itself -/
def cut (s : List UInt8) (a e : Nat) : List UInt8 := (s.drop a).take (e - a)
theorem cut_len {s : List UInt8} {a e : Nat} (h1 : a ≤ e) (h : e ≤ s.length) : (cut s a e).length = e - a := by unfold cut; simp; omega
theorem cut_pk {s : List UInt8} {a e k : Nat} (h : k < e - a) : pk (cut s a e) k = pk s (a + k) := by
  simp [cut, pk, List.getD_eq_getElem?_getD, List.getElem?_take, h]
theorem alone {s : List UInt8} {a e : Nat} {k : Int} {l : List UInt8} (ha : a < s.length) (ht : tok1 s a = .ok (k, l, e)) : Lx (cut s a e) 0 [⟨k, l, 0, e - a⟩] := by
  have hk := tok1_le ha ht
  have hl := cut_len (s := s) (a := a) (e := e) (by omega) hk.2
  have h1 := tok_lo (t := cut s a e) (j := 0) ha ht ⟨⟨by omega, by omega, fun n hn => by rw [Nat.zero_add]; exact cut_pk hn⟩, fun h => by omega⟩
  rw [Nat.zero_add] at h1
  refine .cons (Nat.le_refl _) (by omega) (ign_tok (by omega) h1) h1 (.nil (by omega) ?_)
  rw [List.drop_eq_nil_of_le (by omega), hl, Nat.sub_self]
  rfl

/-! ### all of them, with a blank between -/
def joinB (s : List UInt8) (L : List Tok) : List UInt8 := (L.map fun t => cut s t.a t.e ++ [32]).flatten
theorem pk_app {s t : List UInt8} (k : Nat) : pk (s ++ t) (s.length + k) = pk t k := by
  unfold pk
  rw [List.getD_eq_getElem?_getD, List.getD_eq_getElem?_getD, List.getElem?_append_right (by omega)]
  congr 2
  omega
theorem pk_app1 {s t : List UInt8} {k : Nat} (h : k < s.length) : pk (s ++ t) k = pk s k := by simp [pk, List.getD_eq_getElem?_getD, List.getElem?_append, h]
theorem ign_blank {g : UInt8} (hg : wsB.contains g = true) (r : List UInt8) : ign (g :: r) = (1 + (ign r).1, (ign r).2) := by
  have h := ign_ws (l := g :: r) (by simp) (show wsB.contains ((g :: r).getD 0 0) = true from hg)
  rw [h]
  show ((ign r).1 + 1, (ign r).2) = _
  rw [Nat.add_comm]
theorem joined {s : List UInt8} {i : Nat} {L : List Tok} (h : Lx s i L) : ∀ P : List UInt8, ∃ L', Lx (P ++ joinB s L) P.length L' ∧ Al L' L := by
  induction h with
  | nil hi hg =>
    intro P
    refine ⟨[], .nil (by simp) ?_, rfl⟩
    simp [joinB, ign_nil]
  | @cons i a e k l L hi ha hg ht hL ih =>
    intro P
    have hk := tok1_le ha ht
    have hl := cut_len (s := s) (a := a) (e := e) (by omega) hk.2
    obtain ⟨L', h1, h2⟩ := ih (P ++ cut s a e ++ [32])
    have eq : P ++ joinB s (⟨k, l, a, e⟩ :: L) = P ++ cut s a e ++ [32] ++ joinB s L := by simp [joinB]
    rw [eq]
    obtain ⟨T, hT⟩ : ∃ T, T = P ++ cut s a e ++ [32] ++ joinB s L := ⟨_, rfl⟩
    have eT2 : T = P ++ (cut s a e ++ ([32] ++ joinB s L)) := by rw [hT]; simp
    have hlen : T.length = P.length + (e - a) + 1 + (joinB s L).length := by rw [hT]; simp; omega
    have hPl : (P ++ cut s a e ++ [32]).length = P.length + (e - a) + 1 := by simp; omega
    rw [← hT] at h1 ⊢
    rw [hPl] at h1
    have hlast : T.drop (P.length + (e - a)) = 32 :: joinB s L := by
      have : P.length + (e - a) = (P ++ cut s a e).length := by simp; omega
      rw [this, hT, List.append_assoc, List.drop_left]
      rfl
    have h3 : Lx T (P.length + (e - a)) L' := by
      refine Lx.skip h1 ?_
      rw [← List.drop_drop (i := 1), hlast, ign_blank (by decide)]
      rfl
    have htok := tok_lo (t := T) (j := P.length) ha ht ⟨⟨by omega, by omega, fun n hn => by rw [eT2, pk_app, pk_app1 (by omega), cut_pk hn]⟩, fun _ => Or.inl (by
      have : pk T (P.length + (e - a)) = 32 := by
        rw [eT2, pk_app, ← hl]
        have := pk_app (s := cut s a e) (t := [32] ++ joinB s L) 0
        simp [pk]
      rw [this]
      decide)⟩
    exact ⟨_, .cons (Nat.le_refl _) (by omega) (by rw [Nat.sub_self]; exact ign_tok (by omega) htok) htok h3, h2.cons _ _ _ _ _ _⟩

/-! ### more that is ignored -/
/-- Something that is ignored, whatever follows. -/
def Gap (g : List UInt8) : Prop := g ≠ [] ∧ gapB.contains (g.getD 0 0) = true ∧ ∀ r, ign (g ++ r) = (g.length + (ign r).1, (ign r).2)
theorem gap_ws {g : UInt8} (hg : wsB.contains g = true) (h2 : gapB.contains g = true) : Gap [g] := ⟨by simp, h2, fun r => ign_blank hg r⟩
theorem gap_mark : Gap [239, 187, 191] := ⟨by simp, by decide, fun r => by
  have hw : wsB.contains (([239, 187, 191] ++ r).getD 0 0) = false := by simp [wsB]
  have := ign_mark (l := [239, 187, 191] ++ r) (by simp) hw (by simp [markB, List.isPrefixOf])
  rw [this]
  simp only [List.cons_append, List.nil_append, List.drop_succ_cons, List.drop_zero, List.length_cons, List.length_nil]
  congr 1
  omega⟩
theorem gap_com {c d : UInt8} (hc : c.toNat < 128) (h32 : 32 ≤ c.toNat) (hd : d = 10 ∨ d = 13) (r : List UInt8) : ign ([35, c, d] ++ r) = (3 + (ign r).1, (ign r).2) := by
  have e2 : com (d :: r) = (0, true) := com_end (by
    rcases hd with rfl | rfl
    · exact Or.inr (Or.inl rfl)
    · exact Or.inr (Or.inr rfl))
  have e1 : com (c :: d :: r) = (1, true) := by
    have hs := src_ascii (l := c :: d :: r) (by simp) hc (Or.inl h32)
    have hn : ¬ ((c :: d :: r).getD 0 0 = 10 ∨ (c :: d :: r).getD 0 0 = 13) := by
      simp only [List.getD_cons_zero]
      rintro (e | e) <;> (rw [e] at h32; revert h32; decide)
    rw [com_step (by simp) hn hs]
    simp only [List.drop_succ_cons, List.drop_zero, e2]
  have e0 : com (35 :: c :: d :: r) = (2, true) := by
    have hs := src_ascii (l := 35 :: c :: d :: r) (by simp) (by simp) (by simp)
    rw [com_step (by simp) (by simp) hs]
    simp only [List.drop_succ_cons, List.drop_zero, e1]
  have := ign_com (l := [35, c, d] ++ r) (by simp) (show wsB.contains 35 = false by decide) (by simp [markB, List.isPrefixOf]) (by simp)
  rw [this]
  have e0' : com ([35, c, d] ++ r) = (2, true) := e0
  rw [e0', if_pos rfl]
  simp only [List.cons_append, List.nil_append, List.drop_succ_cons, List.drop_zero]
  rw [ign_blank (by rcases hd with rfl | rfl <;> decide)]
  simp only
  congr 1
  omega
def gaps : List (List UInt8) := [[32], [44], [10], [13], [9], [239, 187, 191], [35, 120, 10], [44, 35, 34, 13]]
theorem gap_all : ∀ g ∈ gaps, Gap g := by
  intro g hg
  simp only [gaps, List.mem_cons, List.not_mem_nil, or_false] at hg
  rcases hg with rfl | rfl | rfl | rfl | rfl | rfl | rfl | rfl
  · exact gap_ws (by decide) (by decide)
  · exact gap_ws (by decide) (by decide)
  · exact gap_ws (by decide) (by decide)
  · exact gap_ws (by decide) (by decide)
  · exact gap_ws (by decide) (by decide)
  · exact gap_mark
  · exact ⟨by simp, by decide, gap_com (by decide) (by decide) (Or.inl rfl)⟩
  · refine ⟨by simp, by decide, fun r => ?_⟩
    have h1 := ign_blank (g := 44) (by decide) ([35, 34, 13] ++ r)
    rw [gap_com (by decide) (by decide) (Or.inr rfl)] at h1
    have h1 : ign ([44, 35, 34, 13] ++ r) = (1 + (3 + (ign r).1), (ign r).2) := h1
    rw [h1]
    simp only [List.length_cons, List.length_nil]
    congr 1
    omega
/-- Where the k-th token begins, or the last one ends. -/
def placeOf : Nat → List Tok → Nat → Nat
  | i, [], _ => i
  | _, t :: _, 0 => t.a
  | _, t :: L, k + 1 => placeOf t.e L k
theorem place_nil (i k : Nat) : placeOf i [] k = i := by cases k <;> rfl
def insB (s g : List UInt8) (p : Nat) : List UInt8 := s.take p ++ (g ++ s.drop p)
theorem ins_len (s g : List UInt8) {p : Nat} (hp : p ≤ s.length) : (insB s g p).length = s.length + g.length := by simp [insB]; omega
theorem ins_pk (s g : List UInt8) {p k : Nat} (hp : p ≤ s.length) (hk : k < p) : pk (insB s g p) k = pk s k := by
  unfold insB
  rw [pk_app1 (by simp; omega)]
  simp [pk, List.getD_eq_getElem?_getD, List.getElem?_take, hk]
theorem ins_drop (s g : List UInt8) {p : Nat} (hp : p ≤ s.length) : (insB s g p).drop p = g ++ s.drop p := by
  unfold insB
  have : (s.take p).length = p := by simp; omega
  have h := List.drop_left (l₁ := s.take p) (l₂ := g ++ s.drop p)
  rwa [this] at h
theorem ins_drop2 (s g : List UInt8) {p : Nat} (hp : p ≤ s.length) : (insB s g p).drop (p + g.length) = s.drop p := by
  rw [← List.drop_drop, ins_drop s g hp, List.drop_left]
theorem place_ge {s : List UInt8} {i : Nat} {L : List Tok} (h : Lx s i L) : ∀ k, i ≤ placeOf i L k ∧ placeOf i L k ≤ s.length := by
  induction h with
  | nil hi hg => intro k; rw [place_nil]; exact ⟨Nat.le_refl _, hi⟩
  | cons hi ha hg ht hL ih =>
    have := tok1_le ha ht
    intro k
    cases k with
    | zero => exact ⟨hi, by show _ ≤ _; simp only [placeOf]; omega⟩
    | succ k => have := ih k; simp only [placeOf]; omega
theorem inserted {s g : List UInt8} (hG : Gap g) {i : Nat} {L : List Tok} (h : Lx s i L) : ∀ k, k ≤ L.length → ∃ L', Lx (insB s g (placeOf i L k)) i L' ∧ Al L' L := by
  obtain ⟨hg0, hg1, hg2⟩ := hG
  have hgl := List.length_pos_iff.2 hg0
  induction h with
  | @nil i hi hg =>
    intro k hk
    rw [place_nil]
    refine ⟨[], .nil (by rw [ins_len s g hi]; omega) ?_, rfl⟩
    show ign ((insB s g i).drop i) = ((insB s g i).length - i, true)
    rw [ins_drop s g hi, hg2, hg, ins_len s g hi]
    simp only
    congr 1
    omega
  | @cons i a e k0 l L hi ha hg ht hL ih =>
    intro k hk
    have hk1 := tok1_le ha ht
    cases k with
    | zero =>
      show ∃ L', Lx (insB s g a) i L' ∧ _
      obtain ⟨T, hT⟩ : ∃ T, T = insB s g a := ⟨_, rfl⟩
      have hlen : T.length = s.length + g.length := by rw [hT, ins_len s g (by omega)]
      have hd : T.drop a = g ++ s.drop a := by rw [hT, ins_drop s g (by omega)]
      have hd2 : T.drop (a + g.length) = s.drop a := by rw [hT, ins_drop2 s g (by omega)]
      have hp : ∀ k, k < a → pk T k = pk s k := fun k hk => by rw [hT, ins_pk s g (by omega) hk]
      rw [← hT]
      obtain ⟨M, h1, h2⟩ := Lx.move (t := T) (Lx.cons (i := a) (Nat.le_refl _) ha (by rw [Nat.sub_self]; exact ign_tok ha ht) ht hL) (a + g.length) (by omega) hd2
      have h3 : Lx T a M := Lx.skip h1 (by rw [hd, hg2, hd2])
      have h4 : Lx T (i + (a - i)) M := by rw [show i + (a - i) = a by omega]; exact h3
      refine ⟨M, Lx.skip h4 ?_, h2⟩
      have := ign_lo _ (s.drop i) (Nat.le_refl _) (T.drop i) (a - i) true hg (by simp; omega) (fun k hk => by
        rw [drop_pk, drop_pk]; exact hp _ (by omega)) (Or.inr (Or.inr (Or.inr ⟨rfl, by simp; omega⟩)))
      rwa [List.drop_drop] at this
    | succ k =>
      obtain ⟨M, h1, h2⟩ := ih k (by simpa using hk)
      have hpl := place_ge hL k
      show ∃ L', Lx (insB s g (placeOf e L k)) i L' ∧ _
      obtain ⟨p, hp0⟩ : ∃ p, p = placeOf e L k := ⟨_, rfl⟩
      rw [← hp0] at h1 hpl ⊢
      obtain ⟨T, hT⟩ : ∃ T, T = insB s g p := ⟨_, rfl⟩
      have hlen : T.length = s.length + g.length := by rw [hT, ins_len s g (by omega)]
      have hd : T.drop p = g ++ s.drop p := by rw [hT, ins_drop s g (by omega)]
      have hp : ∀ k, k < p → pk T k = pk s k := fun k hk => by rw [hT, ins_pk s g (by omega) hk]
      rw [← hT] at h1 ⊢
      have htok := tok_lo (t := T) (j := a) ha ht ⟨⟨by omega, by omega, fun n hn => hp _ (by omega)⟩, fun hl => by
        rw [show a + (e - a) = e by omega]
        by_cases hep : e < p
        · exact Or.inr ⟨by omega, hp _ hep⟩
        · left
          have : e = p := by omega
          subst this
          have e1 := congrArg (fun l => List.getD l 0 0) hd
          simp only [pk_head] at e1
          rw [e1]
          cases g with
          | nil => exact absurd rfl hg0
          | cons c g => exact hg1⟩
      rw [show a + (e - a) = e by omega] at htok
      refine ⟨_, .cons hi (by omega) ?_ htok h1, h2.cons _ _ _ _ _ _⟩
      have := ign_lo _ (s.drop i) (Nat.le_refl _) (T.drop i) (a - i) true hg (by simp; omega) (fun k hk => by
        rw [drop_pk, drop_pk]; exact hp _ (by omega)) (Or.inr (Or.inr (Or.inr ⟨rfl, by simp; omega⟩)))
      rw [List.drop_drop, show i + (a - i) = a by omega, ign_tok (by omega) htok] at this
      simpa using this

/-! ### what is ahead of a wrong place -/
theorem take_pk {s : List UInt8} {j k : Nat} (h : k < j) : pk (s.take j) k = pk s k := by simp [pk, List.getD_eq_getElem?_getD, List.getElem?_take, h]
theorem take_drop_ign {s : List UInt8} {i : Nat} (hi : i ≤ s.length) : ign ((s.take (i + (ign (s.drop i)).1)).drop i) = ((ign (s.drop i)).1, true) := by
  have e : (s.take (i + (ign (s.drop i)).1)).drop i = (s.drop i).take (ign (s.drop i)).1 := by
    rw [List.drop_take]
    congr 1
    omega
  rw [e, ign_take]
theorem ahead_ok (s : List UInt8) : ∀ (d i n j : Nat) (c : Int), s.length - i ≤ d → i ≤ s.length → n ≤ 2048 → lexAt s i n = .error (j, c) →
    i ≤ j ∧ j ≤ s.length ∧ ∃ L, Lx (s.take j) i L ∧ n + L.length ≤ 2048
  | d, i, n, j, c, hd, hi, hn, h => by
    have hle := ign_le (s.drop i)
    rw [List.length_drop] at hle
    have hend : j = i + (ign (s.drop i)).1 → i ≤ j ∧ j ≤ s.length ∧ ∃ L, Lx (s.take j) i L ∧ n + L.length ≤ 2048 := fun e => by
      subst e
      refine ⟨by omega, by omega, [], .nil (by simp; omega) ?_, by simpa using hn⟩
      rw [take_drop_ign hi]
      congr 1
      simp
      omega
    rw [lexAt_un s i n hi] at h
    split at h
    · injection h with h
      injection h with e1 e2
      exact hend e1.symm
    · rename_i h1
      have h1 : (ign (s.drop i)).2 = true := by simpa using h1
      split at h
      · cases h
      · rename_i h2
        split at h
        · injection h with h
          injection h with e1 e2
          exact hend e1.symm
        · rename_i h3
          cases ht : tok1 s (i + (ign (s.drop i)).1) with
          | error c' =>
            rw [ht] at h
            injection h with h
            injection h with e1 e2
            exact hend e1.symm
          | ok p =>
            obtain ⟨k, l, e⟩ := p
            rw [ht] at h
            obtain ⟨a, ha⟩ : ∃ a, a = i + (ign (s.drop i)).1 := ⟨_, rfl⟩
            rw [← ha] at ht h2 hend
            have hk := tok1_le (by omega) ht
            simp only at h
            cases hl : lexAt s e (n + 1) with
            | ok L2 => rw [hl] at h; cases h
            | error x =>
              rw [hl] at h
              injection h with h
              subst h
              cases d with
              | zero => omega
              | succ d =>
                obtain ⟨q1, q2, L, q3, q4⟩ := ahead_ok s d e (n + 1) j c (by omega) (by omega) (by omega) hl
                have hg : ign (s.drop i) = (a - i, true) := Prod.ext (by show (ign (s.drop i)).1 = a - i; omega) h1
                have htok := tok_lo (t := s.take j) (j := a) (by omega) ht ⟨⟨by omega, by simp; omega, fun n hn => take_pk (by omega)⟩, fun hl => by
                  simp at hl
                  exact Or.inr ⟨by omega, take_pk (by omega)⟩⟩
                rw [show a + (e - a) = e by omega] at htok
                refine ⟨by omega, q2, ⟨k, l, a, e⟩ :: L, .cons (by omega) (by simp; omega) ?_ htok q3, by simp only [List.length_cons]; omega⟩
                have := ign_lo _ (s.drop i) (Nat.le_refl _) ((s.take j).drop i) (a - i) true hg (by simp; omega) (fun k hk => by
                  rw [drop_pk, drop_pk]; exact take_pk (by omega)) (Or.inr (Or.inr (Or.inr ⟨rfl, by simp; omega⟩)))
                rw [List.drop_drop, show i + (a - i) = a by omega, ign_tok (by simp; omega) htok] at this
                simpa using this
theorem ahead_right {s : List UInt8} {j : Nat} {c : Int} (h : lexP s = .error (j, c)) : (c = 54 ∧ j = 0) ∨ (j ≤ s.length ∧ ∃ L, lexP (s.take j) = .ok L) := by
  unfold lexP at h
  split at h
  · injection h with h
    injection h with e1 e2
    exact Or.inl ⟨e2.symm, e1.symm⟩
  · obtain ⟨q1, q2, L, q3, q4⟩ := ahead_ok s _ 0 0 j c (Nat.le_refl _) (by omega) (by omega) h
    exact Or.inr ⟨q2, L, lexP_iff.2 ⟨by simp; omega, q3, by omega⟩⟩

/-! ### a document ahead of another -/
theorem front_ign {s t : List UInt8} {e : Nat} (he : e ≤ s.length) (hg : ign (s.drop e) = (s.length - e, true)) :
    ign ((s ++ 10 :: t).drop e) = (s.length - e + (ign ((s ++ 10 :: t).drop s.length)).1, (ign ((s ++ 10 :: t).drop s.length)).2) := by
  have := ign_lo _ (s.drop e) (Nat.le_refl _) ((s ++ 10 :: t).drop e) (s.length - e) true hg (by simp only [List.length_drop, List.length_append, List.length_cons]; omega) (fun k hk => by
    rw [drop_pk, drop_pk]; exact pk_app1 (by omega)) (Or.inr (Or.inl (by
      rw [drop_pk, show e + (s.length - e) = s.length + 0 by omega, pk_app]
      rfl)))
  rwa [List.drop_drop, show e + (s.length - e) = s.length by omega] at this
theorem front_tok {s t : List UInt8} {i a e : Nat} {k : Int} {l : List UInt8} (hi : i ≤ a) (ha : a < s.length) (hg : ign (s.drop i) = (a - i, true)) (ht : tok1 s a = .ok (k, l, e)) :
    ign ((s ++ 10 :: t).drop i) = (a - i, true) ∧ tok1 (s ++ 10 :: t) a = .ok (k, l, e) := by
  have hk := tok1_le ha ht
  have hlen : (s ++ 10 :: t).length = s.length + 1 + t.length := by simp; omega
  have htok := tok_lo (t := s ++ 10 :: t) (j := a) ha ht ⟨⟨by omega, by omega, fun n hn => pk_app1 (by omega)⟩, fun hl => by
    rw [show a + (e - a) = e by omega]
    by_cases he : e < s.length
    · exact Or.inr ⟨he, pk_app1 he⟩
    · left
      have : e = s.length + 0 := by omega
      rw [this, pk_app]
      rfl⟩
  rw [show a + (e - a) = e by omega] at htok
  refine ⟨?_, htok⟩
  have := ign_lo _ (s.drop i) (Nat.le_refl _) ((s ++ 10 :: t).drop i) (a - i) true hg (by rw [List.length_drop, hlen]; omega) (fun k hk => by
    rw [drop_pk, drop_pk]; exact pk_app1 (by omega)) (Or.inr (Or.inr (Or.inr ⟨rfl, by simp; omega⟩)))
  rw [List.drop_drop, show i + (a - i) = a by omega, ign_tok (by omega) htok] at this
  simpa using this
theorem front {s t : List UInt8} {i : Nat} {L : List Tok} (h : Lx s i L) : ∀ M, Lx (s ++ 10 :: t) (s.length + 1) M → Lx (s ++ 10 :: t) i (L ++ M) := by
  induction h with
  | @nil i hi hg =>
    intro M hM
    have h1 : Lx (s ++ 10 :: t) s.length M := Lx.skip hM (by
      have : (s ++ 10 :: t).drop s.length = 10 :: t := by rw [List.drop_left]
      rw [← List.drop_drop, this, ign_blank (by decide)]
      rfl)
    have h2 : Lx (s ++ 10 :: t) (i + (s.length - i)) M := by rw [show i + (s.length - i) = s.length by omega]; exact h1
    have hf := front_ign (t := t) hi hg
    exact Lx.skip h2 (by rw [show i + (s.length - i) = s.length by omega]; exact hf)
  | @cons i a e k l L hi ha hg ht hL ih =>
    intro M hM
    obtain ⟨q1, q2⟩ := front_tok (t := t) hi ha hg ht
    exact .cons hi (by simp; omega) q1 q2 (ih M hM)
theorem front_le {s t : List UInt8} {i : Nat} {L : List Tok} (h : Lx s i L) : ∀ A, Lx (s ++ 10 :: t) i A → L.length ≤ A.length := by
  induction h with
  | nil hi hg => intro A _; simp
  | @cons i a e k l L hi ha hg ht hL ih =>
    intro A hA
    obtain ⟨q1, q2⟩ := front_tok (t := t) hi ha hg ht
    cases hA with
    | nil hi2 hg2 =>
      rw [q1] at hg2
      injection hg2 with e1 e2
      have := (show (s ++ 10 :: t).length = s.length + 1 + t.length by simp; omega)
      omega
    | @cons _ a2 e2 k2 l2 A hi2 ha2 hg2 ht2 hA2 =>
      rw [q1] at hg2
      injection hg2 with e1 _
      have : a2 = a := by omega
      subst this
      rw [q2] at ht2
      injection ht2 with ht2
      injection ht2 with _ ht2
      injection ht2 with _ ht2
      subst ht2
      have := ih A hA2
      simp only [List.length_cons]
      omega
theorem both_right {s t : List UInt8} {L M : List Tok} (hs : lexP s = .ok L) (ht : lexP t = .ok M) (h1 : L.length + M.length ≤ 2048) (h2 : s.length + t.length + 1 ≤ 16384) :
    ∃ A, lexP (s ++ 10 :: t) = .ok A ∧ Al A (L ++ M) := by
  obtain ⟨_, a2, _⟩ := lexP_iff.1 hs
  obtain ⟨_, b2, _⟩ := lexP_iff.1 ht
  obtain ⟨M', c1, c2⟩ := b2.move (t := s ++ 10 :: t) (s.length + 1) (by simp) (by simp)
  refine ⟨L ++ M', lexP_iff.2 ⟨by simp; omega, front a2 M' c1, by have := c2.len; simp; omega⟩, ?_⟩
  unfold Al at c2 ⊢
  rw [List.map_append, List.map_append, c2]
theorem both_le {s t : List UInt8} {L A : List Tok} (hs : lexP s = .ok L) (h : lexP (s ++ 10 :: t) = .ok A) : L.length ≤ A.length :=
  front_le (lexP_iff.1 hs).2.1 A (lexP_iff.1 h).2.1

end Go.Proofs.YtbmfmnkfdfdjbaaDoor.D
