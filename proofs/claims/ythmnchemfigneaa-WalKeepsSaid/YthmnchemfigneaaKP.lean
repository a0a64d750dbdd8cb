/-
  WalKeeps: the plain law. What a log has laid, what a power cut leaves of it, what is read of that. Plain lists. No condition.
-/
import Derived.Test.YthmnchemfigneaaWL3
import Derived.Test.YthmnchemfigneaaWL2
namespace Go.Proofs.Ythmnchemfigneaa.D
set_option linter.unusedVariables false
set_option linter.unusedSimpArgs false

/-- A sector that no record from number n on has made. -/
def Old (n : Nat) (l : List UInt8) : Prop := (l.drop 14).take 2 = [82, 87] → val (l.take 8) < n

def lay : Nat → List (List UInt8) → List UInt8
  | _, [] => []
  | n, r :: rs => secsOf n r ++ lay (n + 1) rs
def sizes : List (List UInt8) → Nat
  | [] => 0
  | r :: rs => many r.length + sizes rs

theorem lay_len : ∀ (rs : List (List UInt8)) (n : Nat), (lay n rs).length = 64 * sizes rs
  | [], _ => rfl
  | r :: rs, n => by
    have := lay_len rs (n + 1)
    have := secsOf_len n r
    simp only [lay, sizes, List.length_append]
    omega
theorem sizes_ge : ∀ (rs : List (List UInt8)), rs.length ≤ sizes rs
  | [] => Nat.le_refl _
  | r :: rs => by
    have := sizes_ge rs
    have := many_pos r.length
    simp only [sizes, List.length_cons]
    omega
theorem sizes_append : ∀ (rs ss : List (List UInt8)), sizes (rs ++ ss) = sizes rs + sizes ss
  | [], ss => by simp [sizes]
  | r :: rs, ss => by
    have := sizes_append rs ss
    simp only [List.cons_append, sizes]
    omega
theorem lay_append : ∀ (rs ss : List (List UInt8)) (n : Nat), lay n (rs ++ ss) = lay n rs ++ lay (n + rs.length) ss
  | [], ss, n => by simp [lay]
  | r :: rs, ss, n => by
    have := lay_append rs ss (n + 1)
    simp only [List.cons_append, lay, this, List.append_assoc, List.length_cons]
    rw [show n + 1 + rs.length = n + (rs.length + 1) by omega]
theorem sizes_take (rs : List (List UInt8)) (k : Nat) : sizes (rs.take k) ≤ sizes rs := by
  have h := sizes_append (rs.take k) (rs.drop k)
  rw [List.take_append_drop] at h
  omega

theorem piece_left {a b : List UInt8} {j : Nat} (h : 64 * j + 64 ≤ a.length) : piece (a ++ b) j = piece a j := by
  simp only [piece]
  rw [List.drop_append_of_le_length (by omega), List.take_append_of_le_length (by rw [List.length_drop]; omega)]
theorem piece_right {a b : List UInt8} {m j : Nat} (h : a.length = 64 * m) (hj : m ≤ j) : piece (a ++ b) j = piece b (j - m) := by
  simp only [piece]
  rw [List.drop_append]
  rw [List.drop_of_length_le (by omega), List.nil_append, h]
  congr 2
  omega
theorem piece_dropN (t : List UInt8) (m j : Nat) : piece (t.drop (64 * m)) j = piece t (m + j) := by
  simp only [piece, List.drop_drop]
  congr 2
  omega

theorem one_stamp {n : Nat} (hn : n < 18446744073709551616) (m : Nat) (r : List UInt8) (i : Nat) : val ((one n m r i).take 8) = n := by
  rw [one_no, val_be]
  exact Nat.mod_eq_of_lt hn
theorem one_new {n : Nat} (hn : n < 18446744073709551616) (m : Nat) (r : List UInt8) (i : Nat) : ¬ Old n (one n m r i) := fun h => by
  have := h (one_mark n m r i)
  rw [one_stamp hn] at this
  omega

theorem lay_first (n : Nat) (r : List UInt8) (rs : List (List UInt8)) (j : Nat) (hj : j < many r.length) : piece (lay n (r :: rs)) j = one n (many r.length) r j := by
  rw [lay, piece_left (by rw [secsOf_len]; omega), secsOf_piece n r j hj]
theorem lay_next (n : Nat) (r : List UInt8) (rs : List (List UInt8)) (j : Nat) : piece (lay n (r :: rs)) (many r.length + j) = piece (lay (n + 1) rs) j := by
  rw [lay, piece_right (secsOf_len n r) (by omega)]
  congr 1
  omega

theorem lay_stamp : ∀ (rs : List (List UInt8)) (n j : Nat), n + rs.length < 18446744073709551616 → j < sizes rs → val ((piece (lay n rs) j).take 8) < n + rs.length
  | [], n, j, _, h => by simp [sizes] at h
  | r :: rs, n, j, hn, h => by
    simp only [List.length_cons] at hn ⊢
    by_cases hj : j < many r.length
    · rw [lay_first n r rs j hj, one_stamp (by omega)]
      omega
    · obtain ⟨i, rfl⟩ : ∃ i, j = many r.length + i := ⟨j - many r.length, by omega⟩
      rw [lay_next]
      have := lay_stamp rs (n + 1) i (by omega) (by simp only [sizes] at h; omega)
      omega

theorem take_pieces (t : List UInt8) : ∀ m, 64 * m ≤ t.length → (List.range m).flatMap (piece t) = t.take (64 * m)
  | 0, _ => by simp
  | m + 1, h => by
    rw [List.range_succ, List.flatMap_append, take_pieces t m (by omega)]
    simp [piece, Nat.mul_succ, List.take_add]

theorem flat_congr {α : Type} {f g : Nat → List α} : ∀ m, (∀ i, i < m → f i = g i) → (List.range m).flatMap f = (List.range m).flatMap g
  | 0, _ => rfl
  | m + 1, h => by
    rw [List.range_succ, List.flatMap_append, List.flatMap_append, flat_congr m (fun i hi => h i (by omega))]
    simp [h m (by omega)]

theorem many_le {n : Nat} (h : n ≤ 16384) : many n ≤ 342 := by unfold many; omega

theorem ahead_full {t : List UInt8} {n : Nat} {r : List UInt8} (hr : r.length ≤ 16384) (ht : 64 * many r.length ≤ t.length) (h : ∀ j, j < many r.length → piece t j = one n (many r.length) r j) : ahead t n = some r := by
  have hp := many_pos r.length
  have hl := many_le hr
  have h0 := h 0 hp
  have e0 : ∀ (a : Nat), a + 2 ≤ 64 → (t.drop a).take 2 = ((piece t 0).drop a).take 2 := fun a ha => by
    simp only [piece, Nat.mul_zero, List.drop_zero, List.drop_take, List.take_take]
    congr 1
    omega
  have e1 := e0 14 (by omega)
  rw [h0, one_mark] at e1
  have e2 := e0 10 (by omega)
  rw [h0, one_many] at e2
  have e3 : val ((t.drop 10).take 2) = many r.length := by rw [e2, val_be, Nat.mod_eq_of_lt (by omega)]
  have e4 : (List.range (many r.length)).flatMap (body t) = r := by
    rw [flat_congr _ (fun i hi => body_of n r i hi t (h i hi)), cat_parts]
  have e5 : secsOf n r = t.take (64 * many r.length) := by
    rw [← take_pieces t _ ht]
    exact flat_congr _ (fun i hi => (h i hi).symm)
  unfold ahead
  rw [if_neg (by rw [e1]; simp; omega)]
  simp only [e3, e4]
  rw [if_neg (by omega), if_pos ⟨hr, hp, e5⟩]

theorem ahead_old {t : List UInt8} {n : Nat} {r : List UInt8} (hn : n < 18446744073709551616) (h : Old n (piece t 0)) : ahead t n = none := by
  cases ha : ahead t n with
  | none => rfl
  | some r' =>
    rw [ahead_piece ha 0 (many_pos _)] at h
    exact absurd h (one_new hn _ _ _)

theorem ahead_right {t : List UInt8} {n : Nat} {r r' : List UInt8} (hn : n < 18446744073709551616) (hr : r.length ≤ 16384) (h : ∀ j, j < many r.length → piece t j = one n (many r.length) r j ∨ Old n (piece t j)) (ha : ahead t n = some r') : r' = r := by
  have new : ∀ j, j < many r'.length → j < many r.length → one n (many r.length) r j = one n (many r'.length) r' j := fun j h1 h2 => by
    have hp := ahead_piece ha j h1
    rcases h j h2 with h3 | h3
    · rw [← h3, hp]
    · rw [hp] at h3
      exact absurd h3 (one_new hn _ _ _)
  have h0 := new 0 (many_pos _) (many_pos _)
  have h1 := congrArg (fun x => (x.drop 10).take 2) h0
  simp only [one_many] at h1
  have l1 := many_le hr
  have l2 := many_le (ahead_some ha).2.2.1
  have hm := be_inj (k := 2) (by omega) (by omega) h1
  have hs : secsOf n r' = secsOf n r := by
    unfold secsOf
    rw [← hm]
    refine flat_congr _ (fun j hj => ?_)
    have := new j (by omega) hj
    rw [this, hm]
  exact (secsOf_inj hn hn hs).2

/-- What is read of what a cut has left. -/
theorem read_rows : ∀ (rs : List (List UInt8)) (t : List UInt8) (n k : Nat), n + rs.length < 18446744073709551616 → (∀ r ∈ rs, r.length ≤ 16384) → 64 * sizes rs ≤ t.length → k ≤ rs.length →
    (∀ j, j < sizes (rs.take k) → piece t j = piece (lay n rs) j) → (∀ j, j < sizes rs → piece t j = piece (lay n rs) j ∨ Old n (piece t j)) → (∀ j, sizes rs ≤ j → 64 * j + 64 ≤ t.length → Old n (piece t j)) →
    ∃ p, k ≤ p ∧ p ≤ rs.length ∧ recs t n = rs.take p
  | [], t, n, k, hn, _, _, hk, _, _, ho => by
    simp only [List.length_nil] at hk hn
    refine ⟨0, hk, Nat.le_refl _, ?_⟩
    by_cases h64 : t.length < 64
    · rw [recs_none (ahead_none_short h64)]; rfl
    · rw [recs_none (ahead_old (r := []) (by omega) (ho 0 (Nat.zero_le _) (by omega)))]; rfl
  | r :: rs, t, n, k, hn, hr, ht, hk, hd, hm, ho => by
    simp only [List.length_cons] at hk hn
    simp only [sizes] at ht hm ho
    have hr0 : r.length ≤ 16384 := hr r (List.mem_cons_self ..)
    have hfirst : ∀ j, j < many r.length → piece t j = one n (many r.length) r j ∨ Old n (piece t j) := fun j hj => by
      rw [← lay_first n r rs j hj]
      exact hm j (by omega)
    cases ha : ahead t n with
    | none =>
      refine ⟨0, ?_, Nat.zero_le _, by rw [recs_none ha]; rfl⟩
      cases k with
      | zero => exact Nat.le_refl _
      | succ k =>
        exfalso
        have : ahead t n = some r := ahead_full hr0 (by omega) (fun j hj => by
          rw [← lay_first n r rs j hj]
          exact hd j (by simp only [List.take_succ_cons, sizes]; omega))
        rw [ha] at this
        cases this
    | some r' =>
      obtain rfl := ahead_right (by omega) hr0 hfirst ha
      obtain ⟨p, h1, h2, h3⟩ := read_rows rs (t.drop (64 * many r'.length)) (n + 1) (k - 1) (by omega) (fun x hx => hr x (List.mem_cons_of_mem _ hx)) (by rw [List.length_drop]; omega) (by omega)
        (fun j hj => by
          cases k with
          | zero => simp [sizes] at hj
          | succ k =>
            simp only [Nat.add_sub_cancel] at hj
            rw [piece_dropN, hd (many r'.length + j) (by simp only [List.take_succ_cons, sizes]; omega), lay_next])
        (fun j hj => by
          rw [piece_dropN]
          rcases hm (many r'.length + j) (by omega) with h | h
          · left; rw [h, lay_next]
          · right; exact fun e => by have := h e; omega)
        (fun j hj h64 => by
          rw [piece_dropN]
          rw [List.length_drop] at h64
          exact fun e => by have := ho (many r'.length + j) (by omega) (by omega) e; omega)
      exact ⟨p + 1, by omega, by simp only [List.length_cons]; omega, by rw [recs_some ha, h3]; rfl⟩

/-- Each record that is read has a sector with its number. -/
theorem recs_stamps : ∀ (x : List (List UInt8)) (t : List UInt8) (n : Nat), recs t n = x → n + x.length < 18446744073709551616 → ∀ i, i < x.length → ∃ j, 64 * j + 64 ≤ t.length ∧ marked t j ∧ stamp t j = n + i
  | [], _, _, _, _, i, hi => by simp at hi
  | r :: x, t, n, h, hn, i, hi => by
    simp only [List.length_cons] at hn hi
    cases ha : ahead t n with
    | none => rw [recs_none ha] at h; cases h
    | some r' =>
      rw [recs_some ha] at h
      injection h with h1 h2
      cases i with
      | zero =>
        have := ahead_stamp (a := t) (i := 0) (n := n) (r := r') (by simpa using ha) (by omega)
        exact ⟨0, this⟩
      | succ i =>
        obtain ⟨j, h3, h4, h5⟩ := recs_stamps x _ (n + 1) h2 (by omega) i (by omega)
        refine ⟨many r'.length + j, ?_, ?_, ?_⟩
        · rw [List.length_drop] at h3; omega
        · unfold marked at h4 ⊢; rw [piece_dropN] at h4; exact h4
        · unfold stamp at h5 ⊢; rw [piece_dropN] at h5; omega

theorem great_le (a : List UInt8) (b B : Nat) (hb : b ≤ B) : ∀ i, (∀ j, j < i → marked a j → stamp a j ≤ B) → great a b i ≤ B
  | 0, _ => hb
  | i + 1, h => by
    rw [great]
    have h1 := great_le a b B hb i (fun j hj => h j (by omega))
    split
    · rename_i hm
      have := h i (by omega) hm
      omega
    · exact h1

theorem flat_piece' (f : Nat → List UInt8) : ∀ m i, (∀ i, i < m → (f i).length = 64) → i < m → piece ((List.range m).flatMap f) i = f i
  | 0, i, _, hi => by omega
  | m + 1, i, h, hi => by
    simp only [List.range_succ, List.flatMap_append, List.flatMap_cons, List.flatMap_nil, List.append_nil]
    have hl : ∀ m, (∀ i, i < m → (f i).length = 64) → ((List.range m).flatMap f).length = 64 * m := by
      intro m
      induction m with
      | zero => intro _; rfl
      | succ m ih =>
        intro h
        have := h m (by omega)
        have := ih (fun i hi => h i (by omega))
        simp only [List.range_succ, List.flatMap_append, List.flatMap_cons, List.flatMap_nil, List.append_nil, List.length_append]
        omega
    have hl := hl m (fun i hi => h i (by omega))
    by_cases e : i = m
    · subst e
      rw [piece_right hl (Nat.le_refl _)]
      have h6 := h i (by omega)
      simp only [piece, Nat.sub_self, Nat.mul_zero, List.drop_zero]
      rw [List.take_of_length_le (by omega)]
    · rw [piece_left (by omega)]
      exact flat_piece' f m i (fun i hi => h i (by omega)) (by omega)

theorem sec_len {s : St} (hs : s.Ok) {k : Nat} (hk : k < s.n) : (sec s k).length = 64 := by
  unfold sec
  cases hu : s.un k with
  | none =>
    have := hs.safe
    simp only [Option.getD_none, piece, List.length_take, List.length_drop]
    omega
  | some l => exact (hs.un k l hu).2
theorem sec_is (s : St) (k : Nat) : s.sec k = sec s k := rfl
theorem secs_piece {s : St} (hs : s.Ok) {F C j : Nat} (hc : F + C ≤ s.n) (hj : j < C) : piece (secs s F C) j = sec s (F + j) := by
  unfold secs
  exact flat_piece' (fun i => s.sec (F + i)) C j (fun i hi => sec_len hs (k := F + i) (by omega)) hj

theorem chk_zero {s : St} {F C n : Nat} (hd : s.dead = false) (hc : F + C ≤ s.n) (h1 : 1 ≤ C) (hn : 1 ≤ n) (hn2 : n ≤ 1152921504606846976) : chk s F C n = 0 := by
  unfold chk
  rw [if_neg (by omega), hd]
  rfl
theorem read_secs {s : St} {F C : Nat} (hd : s.dead = false) (hc : F + C ≤ s.n) : (s.read F C).1 = secs s F C := by
  rw [St.read, if_neg (by simp [hd]), if_neg (by omega)]
  rfl

/-- What is read anywhere. -/
theorem read_any {s : St} (hs : s.Ok) {F C n : Nat} (hd : s.dead = false) (hc : F + C ≤ s.n) (h1 : 1 ≤ C) (hn : 1 ≤ n) (hn2 : n ≤ 1152921504606846976) (he : (walRead s F C n).2.2 = 0) :
    ∃ m : Nat, walRead s F C n = (recs (secs s F C) n, (m : Int), 0) ∧ n ≤ m ∧ m ≤ 1152921504606846976 ∧ m = great (secs s F C) (n - 1) C + 1 ∧ ∀ j, j < C → Old m (sec s (F + j)) := by
  unfold walRead at he ⊢
  rw [chk_zero hd hc h1 hn hn2, read_secs hd hc] at he ⊢
  rw [if_neg (by simp)] at he ⊢
  simp only [Int.toNat_natCast] at he ⊢
  split at he
  · cases he
  · rename_i hg
    rw [if_neg hg]
    refine ⟨great (secs s F C) (n - 1) C + 1, by simp, ?_, by omega, rfl, fun j hj e => ?_⟩
    · have := great_ge (secs s F C) (n - 1) C
      omega
    · have hp := secs_piece hs hc hj
      have := stamp_le (secs s F C) (n - 1) C j hj (by unfold marked; rw [hp]; exact e)
      unfold stamp at this
      rw [hp] at this
      omega

/-- What is read of a log. -/
theorem read_log {s : St} (hs : s.Ok) {F C n k : Nat} {rs : List (List UInt8)} (hd : s.dead = false) (hc : F + C ≤ s.n) (h1 : 1 ≤ C) (hn : 1 ≤ n) (hn2 : n + rs.length ≤ 1152921504606846976)
    (hr : ∀ r ∈ rs, r.length ≤ 16384) (hfit : sizes rs ≤ C) (hk : k ≤ rs.length) (hdone : ∀ j, j < sizes (rs.take k) → sec s (F + j) = piece (lay n rs) j)
    (hmay : ∀ j, j < sizes rs → sec s (F + j) = piece (lay n rs) j ∨ Old n (sec s (F + j))) (hrest : ∀ j, sizes rs ≤ j → j < C → Old n (sec s (F + j))) :
    ∃ p m : Nat, k ≤ p ∧ p ≤ rs.length ∧ walRead s F C n = (rs.take p, (m : Int), 0) ∧ n + p ≤ m ∧ m ≤ 1152921504606846976 ∧ ∀ j, j < C → Old m (sec s (F + j)) := by
  have hal : (secs s F C).length = 64 * C := secs_length hs (by omega)
  have hpc : ∀ j, j < C → piece (secs s F C) j = sec s (F + j) := fun j hj => secs_piece hs hc hj
  have hst := sizes_take rs k
  obtain ⟨p, p1, p2, p3⟩ := read_rows rs (secs s F C) n k (by omega) hr (by omega) hk (fun j hj => by rw [hpc j (by omega)]; exact hdone j hj) (fun j hj => by rw [hpc j (by omega)]; exact hmay j hj) (fun j hj h64 => by rw [hpc j (by omega)]; exact hrest j hj (by omega))
  have hg : great (secs s F C) (n - 1) C < 1152921504606846976 := by
    have := great_le (secs s F C) (n - 1) (n + rs.length - 1) (by omega) C (fun j hj hm => by
      unfold stamp marked at *
      rw [hpc j hj] at hm ⊢
      by_cases h : j < sizes rs
      · rcases hmay j h with h2 | h2
        · rw [h2]
          have := lay_stamp rs n j (by omega) h
          omega
        · have := h2 hm
          omega
      · have := hrest j (by omega) hj hm
        omega)
    omega
  have he : (walRead s F C n).2.2 = 0 := by
    unfold walRead
    rw [chk_zero hd hc h1 hn (by omega), read_secs hd hc, if_neg (by simp)]
    simp only [Int.toNat_natCast]
    rw [if_neg (by omega)]
  obtain ⟨m, m1, m2, m3, m4, m5⟩ := read_any hs hd hc h1 hn (by omega) he
  refine ⟨p, m, p1, p2, by rw [m1, p3], ?_, m3, m5⟩
  have hlen : (rs.take p).length = p := by rw [List.length_take]; omega
  cases p with
  | zero => omega
  | succ p =>
    obtain ⟨j, j1, j2, j3⟩ := recs_stamps (rs.take (p + 1)) (secs s F C) n p3 (by omega) p (by omega)
    have := stamp_le (secs s F C) (n - 1) C j (by omega) j2
    omega

/-! ### what stands -/
structure G (s : St) (F C n : Nat) (rs : List (List UInt8)) (k : Nat) : Prop where
  area : F + C ≤ s.n
  c1 : 1 ≤ C
  n1 : 1 ≤ n
  num : n + rs.length ≤ 1152921504606846976
  short : ∀ r ∈ rs, r.length ≤ 16384
  fit : sizes rs ≤ C
  syn : k ≤ rs.length
  may : ∀ j, j < sizes rs → (sec s (F + j) = piece (lay n rs) j ∨ Old n (sec s (F + j))) ∧ (piece s.safe (F + j) = piece (lay n rs) j ∨ Old n (piece s.safe (F + j)))
  rest : ∀ j, sizes rs ≤ j → j < C → Old n (sec s (F + j)) ∧ Old n (piece s.safe (F + j))
  done : ∀ j, j < sizes (rs.take k) → sec s (F + j) = piece (lay n rs) j ∧ piece s.safe (F + j) = piece (lay n rs) j

theorem G.same {s s' : St} {F C n k : Nat} {rs : List (List UInt8)} (h : G s F C n rs k) (hu : s'.un = s.un) (hf : s'.safe = s.safe) : G s' F C n rs k := by
  have e1 : ∀ i, sec s' i = sec s i := fun i => by unfold sec; rw [hu, hf]
  have e2 : s'.n = s.n := by unfold St.n; rw [hf]
  refine ⟨by rw [e2]; exact h.area, h.c1, h.n1, h.num, h.short, h.fit, h.syn, fun j hj => ?_, fun j h1 h2 => ?_, fun j hj => ?_⟩
  · rw [e1, hf]; exact h.may j hj
  · rw [e1, hf]; exact h.rest j h1 h2
  · rw [e1, hf]; exact h.done j hj

/-- Whatever of it is left. -/
theorem G.left {s s' : St} {F C n k : Nat} {rs : List (List UInt8)} (h : G s F C n rs k) (hn : s'.n = s.n) (hu : s'.un = fun _ => none) (hf : ∀ i, piece s'.safe i = sec s i ∨ piece s'.safe i = piece s.safe i) : G s' F C n rs k := by
  have e1 : ∀ i, sec s' i = piece s'.safe i := fun i => by unfold sec; rw [hu]; rfl
  refine ⟨by rw [hn]; exact h.area, h.c1, h.n1, h.num, h.short, h.fit, h.syn, fun j hj => ?_, fun j h1 h2 => ?_, fun j hj => ?_⟩
  · rw [e1]
    rcases hf (F + j) with e | e <;> rw [e]
    · exact ⟨(h.may j hj).1, (h.may j hj).1⟩
    · exact ⟨(h.may j hj).2, (h.may j hj).2⟩
  · rw [e1]
    rcases hf (F + j) with e | e <;> rw [e]
    · exact ⟨(h.rest j h1 h2).1, (h.rest j h1 h2).1⟩
    · exact ⟨(h.rest j h1 h2).2, (h.rest j h1 h2).2⟩
  · rw [e1]
    rcases hf (F + j) with e | e <;> rw [e]
    · exact ⟨(h.done j hj).1, (h.done j hj).1⟩
    · exact ⟨(h.done j hj).2, (h.done j hj).2⟩

theorem left_or {s : St} (hs : s.Ok) (c : Nat → Bool) (k : Nat) : piece (s.left c) k = sec s k ∨ piece (s.left c) k = piece s.safe k := by
  rw [left_piece hs]
  by_cases h : (s.un k).isSome = true ∧ c (cnt s.un k) = true
  · rw [if_pos h]
    left
    obtain ⟨l, hl⟩ := Option.isSome_iff_exists.1 h.1
    simp [sec, hl]
  · rw [if_neg h]
    exact Or.inr rfl
theorem G.dies {s : St} {F C n k : Nat} {rs : List (List UInt8)} (hs : s.Ok) (h : G s F C n rs k) (ks : List Int) : G (s.dies ks) F C n rs k :=
  h.left (dies_n hs ks) rfl (fun i => left_or hs _ i)

/-- A log that lives. -/
structure Lives (s : St) (L : LSt) (F C n : Nat) (rs : List (List UInt8)) (k : Nat) : Prop where
  g : G s F C n rs k
  ok : s.Ok
  dead : s.dead = false
  log : L = ⟨F, C, sizes rs, n + rs.length, false⟩
  now : ∀ j, j < sizes rs → sec s (F + j) = piece (lay n rs) j
/-- A log whose disk has died. -/
structure Gone (s : St) (F C n : Nat) (rs : List (List UInt8)) (k : Nat) : Prop where
  g : G s F C n rs k
  ok : s.Ok
  dead : s.dead = true
  un : s.un = fun _ => none
def Out (s : St) (L : LSt) (F C n : Nat) (rs : List (List UInt8)) (k : Nat) : Prop := Lives s L F C n rs k ∨ Gone s F C n rs k

theorem Lives.lok {s : St} {L : LSt} {F C n k : Nat} {rs : List (List UInt8)} (h : Lives s L F C n rs k) : L.Ok s.n := by
  rw [h.log]
  exact ⟨h.g.c1, h.g.area, h.g.fit, by have := h.g.n1; show 1 ≤ n + rs.length; omega, h.g.num⟩

theorem Gone.of {s : St} {F C n k : Nat} {rs : List (List UInt8)} (hs : s.Ok) (h : G s F C n rs k) (ks : List Int) : Gone (s.dies ks) F C n rs k := ⟨h.dies hs ks, dies_ok hs ks, rfl, rfl⟩

theorem crash_out {s : St} {L : LSt} {F C n k : Nat} {rs : List (List UInt8)} (h : Lives s L F C n rs k) (ks : List Int) : Out (s.crash ks).1 L F C n rs k := by
  unfold St.crash
  rw [if_neg (by simp [h.dead])]
  exact Or.inr (Gone.of h.ok h.g ks)
theorem arm_out {s : St} {L : LSt} {F C n k : Nat} {rs : List (List UInt8)} (h : Lives s L F C n rs k) (a : Int) (ha : a ≤ 9223372036854775807) (ks : List Int) : Out (s.arm a ks).1 L F C n rs k := by
  have hok := (arm_ok h.ok ha ks).1
  unfold St.arm at hok ⊢
  rw [if_neg (by simp [h.dead])] at hok ⊢
  split
  · exact Or.inl h
  · rename_i h2
    rw [if_neg h2] at hok
    exact Or.inl ⟨h.g.same rfl rfl, hok, h.dead, h.log, h.now⟩

theorem sync_out {s : St} {L : LSt} {F C n k : Nat} {rs : List (List UInt8)} (h : Lives s L F C n rs k) : Out (L.sync s).2.1 (L.sync s).1 F C n rs (if (L.sync s).2.2 = 0 then rs.length else k) := by
  have hst := step_ok h.ok
  have hsy : L.sync s = (L.told s.sync.2, s.sync.1, s.sync.2) := by
    unfold LSt.sync
    rw [h.log, if_neg (by simp)]
  have hun : s.step.1.un = s.un := by unfold St.step; split <;> rfl
  have hsf : s.step.1.safe = s.safe := by unfold St.step; split <;> rfl
  have hdd : s.step.1.dead = s.dead := by unfold St.step; split <;> rfl
  rw [hsy]
  unfold St.sync
  rw [if_neg (by simp [h.dead])]
  by_cases h2 : s.step.2 = true
  · rw [if_pos h2]
    simp only
    rw [if_neg (by decide)]
    exact Or.inr (Gone.of hst (h.g.same hun hsf) _)
  · rw [if_neg h2]
    simp only
    rw [if_pos trivial]
    have him := image_length hst
    have hok := becomes_ok hst him
    have hn : (s.step.1.becomes s.step.1.image).n = s.n := (becomes_n him).trans (step_n s)
    have hsec : ∀ i, sec s.step.1 i = sec s i := fun i => by unfold sec; rw [hun, hsf]
    have hp : ∀ i, piece (s.step.1.becomes s.step.1.image).safe i = sec s i := fun i => (image_piece hst i).trans (hsec i)
    have hG := h.g.left (s' := s.step.1.becomes s.step.1.image) hn rfl (fun i => Or.inl (hp i))
    have hse : ∀ i, sec (s.step.1.becomes s.step.1.image) i = sec s i := fun i => hp i
    refine Or.inl ⟨⟨hG.area, hG.c1, hG.n1, hG.num, hG.short, hG.fit, Nat.le_refl _, hG.may, hG.rest, fun j hj => ?_⟩, hok, ?_, ?_, fun j hj => by rw [hse]; exact h.now j hj⟩
    · rw [List.take_length] at hj
      rw [hse, hp]
      exact ⟨h.now j hj, h.now j hj⟩
    · show s.step.1.dead = false
      rw [hdd]; exact h.dead
    · rw [h.log]; rfl

theorem wun_ok {s : St} (hs : s.Ok) {m k a : Nat} {l : List UInt8} (hk : k + m ≤ s.n) (hl : 64 * m ≤ l.length) (ha : a ≤ 9223372036854775807) : ({ s with un := wun m k l s.un, armed := a } : St).Ok :=
  ⟨hs.safe, hs.n1, hs.n2, fun i l' h => by
    simp only [wun] at h
    split at h
    · rename_i hi
      injection h with h
      subst h
      refine ⟨by show i < s.n; omega, ?_⟩
      simp only [piece, List.length_take, List.length_drop]
      omega
    · exact hs.un i l' h, ha⟩

/-- A record laid, so many of its sectors. -/
theorem G.put {s : St} {F C n k m a : Nat} {rs : List (List UInt8)} {r : List UInt8} (hnow : ∀ j, j < sizes rs → sec s (F + j) = piece (lay n rs) j) (h : G s F C n rs k) (hr : r.length ≤ 16384) (hfit : sizes rs + many r.length ≤ C) (hnum : n + rs.length < 1152921504606846976) (hm : m ≤ many r.length) :
    G { s with un := wun m (F + sizes rs) (secsOf (n + rs.length) r) s.un, armed := a } F C n (rs ++ [r]) k ∧
    (m = many r.length → ∀ j, j < sizes (rs ++ [r]) → sec { s with un := wun m (F + sizes rs) (secsOf (n + rs.length) r) s.un, armed := a } (F + j) = piece (lay n (rs ++ [r])) j) := by
  have hl : lay n (rs ++ [r]) = lay n rs ++ secsOf (n + rs.length) r := by rw [lay_append]; simp [lay]
  have hz : sizes (rs ++ [r]) = sizes rs + many r.length := by rw [sizes_append]; simp [sizes]
  have hll := lay_len rs n
  have p1 : ∀ j, j < sizes rs → piece (lay n (rs ++ [r])) j = piece (lay n rs) j := fun j hj => by rw [hl, piece_left (by omega)]
  have p2 : ∀ j, sizes rs ≤ j → piece (lay n (rs ++ [r])) j = piece (secsOf (n + rs.length) r) (j - sizes rs) := fun j hj => by rw [hl, piece_right hll hj]
  have u1 : ∀ j, ¬ (sizes rs ≤ j ∧ j < sizes rs + m) → sec { s with un := wun m (F + sizes rs) (secsOf (n + rs.length) r) s.un, armed := a } (F + j) = sec s (F + j) := fun j hj => by
    simp only [sec, wun]
    rw [if_neg (by omega)]
  have u2 : ∀ j, sizes rs ≤ j → j < sizes rs + m → sec { s with un := wun m (F + sizes rs) (secsOf (n + rs.length) r) s.un, armed := a } (F + j) = piece (secsOf (n + rs.length) r) (j - sizes rs) := fun j h1 h2 => by
    simp only [sec, wun]
    rw [if_pos (by omega)]
    simp only [Option.getD_some]
    congr 1
    omega
  have htk : (rs ++ [r]).take k = rs.take k := List.take_append_of_le_length h.syn
  have hst := sizes_take rs k
  have hsyn := h.syn
  refine ⟨⟨h.area, h.c1, h.n1, ?_, ?_, by omega, by simp only [List.length_append]; omega, fun j hj => ?_, fun j h1 h2 => ?_, fun j hj => ?_⟩, fun hmm j hj => ?_⟩
  · simp only [List.length_append, List.length_cons, List.length_nil]; omega
  · intro x hx
    rcases List.mem_append.1 hx with hx | hx
    · exact h.short x hx
    · simp at hx; subst hx; exact hr
  · by_cases h1 : j < sizes rs
    · rw [p1 j h1, u1 j (by omega)]
      exact h.may j h1
    · refine ⟨?_, Or.inr (h.rest j (by omega) (by omega)).2⟩
      by_cases h2 : j < sizes rs + m
      · left
        rw [u2 j (by omega) h2, p2 j (by omega)]
      · right
        rw [u1 j (by omega)]
        exact (h.rest j (by omega) (by omega)).1
  · rw [u1 j (by omega)]
    exact h.rest j (by omega) h2
  · rw [htk] at hj
    rw [p1 j (by omega), u1 j (by omega)]
    exact h.done j hj
  · by_cases h1 : j < sizes rs
    · rw [p1 j h1, u1 j (by omega)]
      exact hnow j h1
    · rw [u2 j (by omega) (by omega), p2 j (by omega)]

theorem append_out {s : St} {L : LSt} {F C n k : Nat} {rs : List (List UInt8)} (h : Lives s L F C n rs k) (r : List UInt8) :
    Out (L.append s r).2.1 (L.append s r).1 F C n (if (L.append s r).2.2 = 0 ∨ (L.append s r).2.2 = 2 then rs ++ [r] else rs) k := by
  have hlog := h.log
  subst hlog
  unfold LSt.append
  simp only
  rw [if_neg (by simp)]
  by_cases h1 : 16384 < r.length
  · rw [if_pos h1]
    simp only
    rw [if_neg (by decide)]
    exact Or.inl h
  rw [if_neg h1]
  by_cases h2 : C - sizes rs < many r.length ∨ 1152921504606846976 ≤ n + rs.length
  · rw [if_pos h2]
    simp only
    rw [if_neg (by decide)]
    exact Or.inl h
  rw [if_neg h2]
  have harea := h.g.area
  have hfit := h.g.fit
  have hsl := secsOf_len (n + rs.length) r
  have hsn := h.ok.n2
  have harm := h.ok.armed
  have hw : s.write (F + sizes rs : Nat) (secsOf (n + rs.length) r) = ((wrs (many r.length) (F + sizes rs) (secsOf (n + rs.length) r) s).1, errOf (wrs (many r.length) (F + sizes rs) (secsOf (n + rs.length) r) s).2) := by
    have e : (secsOf (n + rs.length) r).length / 64 = many r.length := by omega
    unfold St.write
    rw [if_neg (by simp [h.dead]), if_neg (by omega), if_neg (by rw [e]; omega), e, Int.toNat_natCast]
  rw [hw]
  have hput := fun m a (hm : m ≤ many r.length) => h.g.put (m := m) (a := a) (r := r) h.now (by omega) (by omega) (by omega) hm
  have hwok := fun m a (hm : m ≤ many r.length) (ha : a ≤ 9223372036854775807) => wun_ok (a := a) (l := secsOf (n + rs.length) r) h.ok (k := F + sizes rs) (m := m) (by omega) (by omega) ha
  have hlv : ∀ a, a ≤ 9223372036854775807 → Lives { s with un := wun (many r.length) (F + sizes rs) (secsOf (n + rs.length) r) s.un, armed := a } ⟨F, C, sizes rs + many r.length, n + rs.length + 1, false⟩ F C n (rs ++ [r]) k := fun a ha =>
    ⟨(hput _ a (Nat.le_refl _)).1, hwok _ a (Nat.le_refl _) ha, h.dead, by rw [sizes_append]; simp [sizes, Nat.add_assoc], (hput _ a (Nat.le_refl _)).2 rfl⟩
  by_cases ha : s.armed = 0
  · rw [wrs_calm _ _ _ _ ha]
    simp only [errOf]
    have hl := hlv s.armed (by omega)
    exact Or.inl hl
  · rw [wrs_armed _ _ _ _ (by omega)]
    by_cases hm : many r.length < s.armed
    · rw [if_pos hm]
      simp only [errOf]
      exact Or.inl (hlv (s.armed - many r.length) (by omega))
    · rw [if_neg hm]
      simp only [errOf]
      have hg := (hput s.armed 0 (by omega)).1
      exact Or.inr (Gone.of (hwok s.armed 0 (by omega) (by omega)) hg _)

/-- A log begun where nothing newer stands. -/
theorem begin_lives {s : St} (hs : s.Ok) {F C n : Nat} (hd : s.dead = false) (hu : s.un = fun _ => none) (hc : F + C ≤ s.n) (h1 : 1 ≤ C) (hn : 1 ≤ n) (hn2 : n ≤ 1152921504606846976) (ho : ∀ j, j < C → Old n (sec s (F + j))) :
    chk s F C n = 0 ∧ Lives s (LSt.begin F C n) F C n [] 0 := by
  have e1 : ∀ i, piece s.safe i = sec s i := fun i => by unfold sec; rw [hu]; rfl
  refine ⟨chk_zero hd hc h1 hn hn2, ⟨hc, h1, hn, by simpa using hn2, by simp, by simp [sizes], Nat.le_refl _, ?_, fun j _ h2 => ⟨ho j h2, by rw [e1]; exact ho j h2⟩, ?_⟩, hs, hd, by simp [LSt.begin, sizes], ?_⟩
  · intro j hj; simp [sizes] at hj
  · intro j hj; simp [sizes] at hj
  · intro j hj; simp [sizes] at hj

/-- What is read first; the log that is begun then. -/
theorem first_lives {s : St} (hs : s.Ok) {F C : Nat} (hd : s.dead = false) (hu : s.un = fun _ => none) (hc : F + C ≤ s.n) (h1 : 1 ≤ C) (he : (walRead s F C 1).2.2 = 0) :
    ∃ m : Nat, (walRead s F C 1).2.1 = (m : Int) ∧ m ≤ 1152921504606846976 ∧ chk s F C m = 0 ∧ Lives s (LSt.begin F C m) F C m [] 0 := by
  rw [show (1 : Int) = ((1 : Nat) : Int) from rfl] at he ⊢
  obtain ⟨m, m1, m2, m3, _, m5⟩ := read_any hs hd hc h1 (Nat.le_refl 1) (by omega) he
  obtain ⟨q1, q2⟩ := begin_lives hs (n := m) hd hu hc h1 m2 m3 m5
  exact ⟨m, by rw [m1], m3, q1, q2⟩

theorem revive_sec (s : St) (i : Nat) : sec s.revive i = sec s i := rfl

/-- What is read behind a cut; the log that is begun then. -/
theorem gone_again {s : St} {F C n k : Nat} {rs : List (List UInt8)} (h : Gone s F C n rs k) :
    ∃ p m : Nat, k ≤ p ∧ p ≤ rs.length ∧ walRead s.revive F C n = (rs.take p, (m : Int), 0) ∧ n + p ≤ m ∧ m ≤ 1152921504606846976 ∧ chk s.revive F C m = 0 ∧ Lives s.revive (LSt.begin F C m) F C m [] 0 := by
  have hok := (revive_ok h.ok).1
  have hG := h.g.same (s' := s.revive) rfl rfl
  obtain ⟨p, m, p1, p2, p3, p4, p5, p6⟩ := read_log hok (k := k) (rs := rs) rfl hG.area hG.c1 hG.n1 hG.num hG.short hG.fit hG.syn (fun j hj => (hG.done j hj).1) (fun j hj => (hG.may j hj).1) (fun j h1 h2 => (hG.rest j h1 h2).1)
  have hn1 := hG.n1
  obtain ⟨q1, q2⟩ := begin_lives hok (n := m) rfl h.un hG.area hG.c1 (by omega) p5 p6
  exact ⟨p, m, p1, p2, p3, p4, p5, q1, q2⟩

/-- What is read at the end. -/
theorem lives_end {s : St} {L : LSt} {F C n k : Nat} {rs : List (List UInt8)} (h : Lives s L F C n rs k) : ∃ m : Nat, walRead s F C n = (rs, (m : Int), 0) := by
  have hG := h.g
  obtain ⟨p, m, p1, p2, p3, _⟩ := read_log h.ok (k := rs.length) (rs := rs) h.dead hG.area hG.c1 hG.n1 hG.num hG.short hG.fit (Nat.le_refl _) (fun j hj => h.now j (by rwa [List.take_length] at hj)) (fun j hj => (hG.may j hj).1) (fun j h1 h2 => (hG.rest j h1 h2).1)
  exact ⟨m, by rw [p3, List.take_of_length_le (by omega)]⟩

end Go.Proofs.Ythmnchemfigneaa.D
