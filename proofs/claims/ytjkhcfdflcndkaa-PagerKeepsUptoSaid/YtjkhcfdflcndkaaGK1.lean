/-
  PagerKeeps: the plain law. What a pager has laid, what a power cut leaves of it, what is opened of that. Plain lists. No condition.
-/
import Derived.Test.YtjkhcfdflcndkaaGT0
namespace Go.Proofs.Ytjkhcfdflcndkaa.D
set_option linter.unusedVariables false
set_option linter.unusedSimpArgs false

/-! ### a head's fields -/
theorem head_g {g r f : Nat} (h : g < 18446744073709551616) : gOf (headB g r f) = g := by
  have e : headB g r f = [82, 90, 72, 49] ++ (be 8 g ++ (be 4 r ++ be 8 f ++ List.replicate 40 0)) := by simp [headB]
  unfold gOf
  rw [e, List.drop_append_of_le_length (by simp), List.drop_of_length_le (by simp), List.nil_append, List.take_append_of_le_length (by simp [be_length]), List.take_of_length_le (by simp [be_length]), val_be]
  exact Nat.mod_eq_of_lt h
theorem head_r {g r f : Nat} (h : r < 4294967296) : rOf (headB g r f) = r := by
  have e : headB g r f = ([82, 90, 72, 49] ++ be 8 g) ++ (be 4 r ++ (be 8 f ++ List.replicate 40 0)) := by simp [headB]
  unfold rOf
  rw [e, List.drop_append_of_le_length (by simp [be_length]), List.drop_of_length_le (by simp [be_length]), List.nil_append, List.take_append_of_le_length (by simp [be_length]), List.take_of_length_le (by simp [be_length]), val_be]
  exact Nat.mod_eq_of_lt h
theorem head_f {g r f : Nat} (h : f < 18446744073709551616) : fOf (headB g r f) = f := by
  have e : headB g r f = ([82, 90, 72, 49] ++ be 8 g ++ be 4 r) ++ (be 8 f ++ List.replicate 40 0) := by simp [headB]
  unfold fOf
  rw [e, List.drop_append_of_le_length (by simp [be_length]), List.drop_of_length_le (by simp [be_length]), List.nil_append, List.take_append_of_le_length (by simp [be_length]), List.take_of_length_le (by simp [be_length]), val_be]
  exact Nat.mod_eq_of_lt h
/-- What a head tells is what was laid. -/
theorem head_parse {n g r f a : Nat} (g1 : 1 ≤ g) (g2 : g ≤ 1152921504606846976) (ha : g % 2 = a) (hr : r ≤ n) (hn : n ≤ 4096) (f1 : 1 ≤ f) (f2 : f ≤ 1152921504606846976) : parseP n a (headB g r f) = (g, (r : Int) - 1, f) := by
  have e1 := head_g (g := g) (r := r) (f := f) (by omega)
  have e2 := head_r (g := g) (r := r) (f := f) (by omega)
  have e3 := head_f (g := g) (r := r) (f := f) (by omega)
  have hk : headOk n a (headB g r f) = true := by
    unfold headOk
    rw [e1, e2, e3]
    simp only [Bool.and_eq_true, decide_eq_true_eq]
    exact ⟨⟨⟨⟨⟨⟨g1, g2⟩, ha⟩, hr⟩, f1⟩, f2⟩, trivial⟩
  unfold parseP
  rw [if_pos hk, e1, e2, e3]
theorem zeros_parse {n a : Nat} : parseP n a (List.replicate 64 0) = (0, 0, 0) := by
  refine parse_bad (fun h => ?_)
  have := (head_ok h).1
  have e : gOf (List.replicate 64 0) = 0 := by decide +kernel
  omega

/-! ### the disk's turns -/
theorem step_safe (s : St) : s.step.1.safe = s.safe ∧ s.step.1.un = s.un ∧ s.step.1.dead = s.dead := by unfold St.step; split <;> exact ⟨rfl, rfl, rfl⟩

/-- A disk on which writes went to sectors of A alone. -/
structure Mod (S S' : St) (A : Nat → Prop) : Prop where
  ok : S'.Ok
  n : S'.n = S.n
  dead : S'.dead = false
  safe : S'.safe = S.safe
  un : ∀ k, ¬ A k → S'.un k = S.un k

/-- A disk whose power went; writes had gone to sectors of A alone. -/
structure Cut (S S' : St) (A : Nat → Prop) : Prop where
  ok : S'.Ok
  n : S'.n = S.n
  dead : S'.dead = true
  un : ∀ k, S'.un k = none
  safe : ∀ k, ¬ A k → piece S'.safe k = piece S.safe k ∨ S.un k = some (piece S'.safe k)

theorem dies_piece {S : St} (hs : S.Ok) (ks : List Int) (k : Nat) : piece (S.dies ks).safe k = piece S.safe k ∨ S.un k = some (piece (S.dies ks).safe k) := by
  have h : piece (S.dies ks).safe k = if (S.un k).isSome = true ∧ comes ks (cnt S.un k) = true then (S.un k).getD [] else piece S.safe k := left_piece hs (comes ks) k
  by_cases hc : (S.un k).isSome = true ∧ comes ks (cnt S.un k) = true
  · right
    rw [if_pos hc] at h
    obtain ⟨l, hl⟩ := Option.isSome_iff_exists.1 hc.1
    rw [hl] at h ⊢
    rw [h]
    rfl
  · left
    rw [if_neg hc] at h
    exact h

theorem dies_cut {S : St} (hs : S.Ok) (ks : List Int) : Cut S (S.dies ks) (fun _ => False) :=
  ⟨dies_ok hs ks, dies_n hs ks, rfl, fun _ => rfl, fun k _ => dies_piece hs ks k⟩
theorem Cut.of {S T S' : St} {A : Nat → Prop} (hn : T.n = S.n) (h1 : T.safe = S.safe) (h2 : ∀ k, ¬ A k → T.un k = S.un k) (h : Cut T S' (fun _ => False)) : Cut S S' A := by
  refine ⟨h.ok, h.n.trans hn, h.dead, h.un, fun k hk => ?_⟩
  have := h.safe k (fun f => f)
  rwa [h1, h2 k hk] at this

theorem wun_out {m a : Nat} {l : List UInt8} {un : Nat → Option (List UInt8)} {k : Nat} (h : ¬ (a ≤ k ∧ k < a + m)) : wun m a l un k = un k := by
  unfold wun
  rw [if_neg h]

/-- A write. -/
theorem write_turn {S : St} (hs : S.Ok) (hd : S.dead = false) (a : Nat) (l : List UInt8) (hl : l.length % 64 = 0) (hn : a + l.length / 64 ≤ S.n) :
    ((∃ ar, S.write a l = ({ S with un := wun (l.length / 64) a l S.un, armed := ar }, 0)) ∨ ∃ m ar, m ≤ l.length / 64 ∧ S.write a l = (({ S with un := wun m a l S.un, armed := ar } : St).dies S.kept, 2)) := by
  have hb : ¬ badW S.n (a : Int) l := by
    unfold badW
    rintro (e | e | e | e) <;> omega
  by_cases ha : S.armed = 0
  · obtain ⟨h1, _, h3⟩ := write_calm S ha hd (a : Int) l
    left
    rw [code_bad.2 hb] at h1
    exact ⟨S.armed, Prod.ext (by rw [h3 hb]; simp) h1⟩
  · have hw : S.write a l = ((wrs (l.length / 64) a l S).1, errOf (wrs (l.length / 64) a l S).2) := by
      unfold badW at hb
      unfold St.write
      rw [if_neg (by simp [hd]), if_neg (by omega), if_neg (fun h => hb (Or.inr h)), Int.toNat_natCast]
    rw [hw, wrs_armed _ _ _ _ (by omega)]
    by_cases hm : l.length / 64 < S.armed
    · rw [if_pos hm]
      exact Or.inl ⟨_, rfl⟩
    · rw [if_neg hm]
      exact Or.inr ⟨S.armed, 0, by omega, rfl⟩

theorem wr_ok {S : St} (hs : S.Ok) {m a : Nat} {l : List UInt8} {ar : Nat} (hm : 64 * m ≤ l.length) (hn : a + m ≤ S.n) (har : ar ≤ 9223372036854775807) : ({ S with un := wun m a l S.un, armed := ar } : St).Ok := by
  refine ⟨hs.safe, hs.n1, hs.n2, fun i x hx => ?_, har⟩
  have hx : wun m a l S.un i = some x := hx
  unfold wun at hx
  split at hx
  · rename_i h
    cases hx
    refine ⟨by show i < S.n; omega, ?_⟩
    simp only [piece, List.length_take, List.length_drop]
    omega
  · exact hs.un i x hx

theorem write_mod {S : St} (hs : S.Ok) (hd : S.dead = false) (a : Nat) (l : List UInt8) (hl : l.length % 64 = 0) (hn : a + l.length / 64 ≤ S.n) :
    ((S.write a l).2 = 0 ∧ Mod S (S.write a l).1 (fun k => a ≤ k ∧ k < a + l.length / 64) ∧ ∀ k, a ≤ k → k < a + l.length / 64 → (S.write a l).1.un k = some (piece l (k - a))) ∨
    ((S.write a l).2 = 2 ∧ Cut S (S.write a l).1 (fun k => a ≤ k ∧ k < a + l.length / 64) ∧ ∀ k, a ≤ k → k < a + l.length / 64 → S.un k = none → piece (S.write a l).1.safe k = piece S.safe k ∨ piece (S.write a l).1.safe k = piece l (k - a)) := by
  have hwo := write_ok hs a l
  rcases write_turn hs hd a l hl hn with ⟨ar, e⟩ | ⟨m, ar, hm, e⟩
  · left
    rw [e] at hwo ⊢
    refine ⟨rfl, ⟨hwo.1, hwo.2, hd, rfl, fun k hk => wun_out hk⟩, fun k h1 h2 => ?_⟩
    show wun _ a l S.un k = _
    unfold wun
    rw [if_pos ⟨h1, h2⟩]
  · right
    rw [e]
    have hT : ({ S with un := wun m a l S.un, armed := 0 } : St).Ok := wr_ok hs (by omega) (by omega) (by omega)
    have ed : ({ S with un := wun m a l S.un, armed := ar } : St).dies S.kept = ({ S with un := wun m a l S.un, armed := 0 } : St).dies S.kept := rfl
    rw [ed]
    have hc := dies_cut hT S.kept
    refine ⟨rfl, Cut.of (T := { S with un := wun m a l S.un, armed := 0 }) rfl rfl (fun k hk => wun_out (m := m) (a := a) (l := l) (fun h => hk ⟨h.1, by omega⟩)) hc, fun k h1 h2 hu => ?_⟩
    have h9 := hc.safe k (fun f => f)
    by_cases hkm : k < a + m
    · have e2 : ({ S with un := wun m a l S.un, armed := 0 } : St).un k = some (piece l (k - a)) := by
        show wun m a l S.un k = _
        unfold wun
        rw [if_pos ⟨h1, hkm⟩]
      rw [e2] at h9
      rcases h9 with h9 | h9
      · exact Or.inl h9
      · injection h9 with h9
        exact Or.inr h9.symm
    · have e2 : ({ S with un := wun m a l S.un, armed := 0 } : St).un k = none := by
        show wun m a l S.un k = _
        rw [wun_out (by omega)]
        exact hu
      rw [e2] at h9
      rcases h9 with h9 | h9
      · exact Or.inl h9
      · cases h9

/-- A sync. -/
theorem sync_mod {S : St} (hs : S.Ok) (hd : S.dead = false) :
    (S.sync.2 = 0 ∧ S.sync.1.Ok ∧ S.sync.1.n = S.n ∧ S.sync.1.dead = false ∧ (∀ k, S.sync.1.un k = none) ∧ ∀ k, piece S.sync.1.safe k = sec S k) ∨ (S.sync.2 = 2 ∧ Cut S S.sync.1 (fun _ => False)) := by
  have hso := sync_ok hs
  have h4 := step_ok hs
  obtain ⟨h1, h2, h3⟩ := step_safe S
  by_cases hg : S.step.2 = true
  · right
    have e : S.sync = (S.step.1.dies S.kept, 2) := by unfold St.sync; rw [if_neg (by simp [hd]), if_pos hg]
    rw [e]
    exact ⟨rfl, Cut.of (step_n S) h1 (fun k _ => by rw [h2]) (dies_cut h4 S.kept)⟩
  · left
    have e : S.sync = (S.step.1.becomes S.step.1.image, 0) := by unfold St.sync; rw [if_neg (by simp [hd]), if_neg hg]
    rw [e] at hso ⊢
    refine ⟨rfl, hso.1, hso.2, by show S.step.1.dead = false; rw [h3, hd], fun k => rfl, fun k => ?_⟩
    show piece S.step.1.image k = _
    rw [image_piece h4]
    unfold sec
    rw [h1, h2]

end Go.Proofs.Ytjkhcfdflcndkaa.D
