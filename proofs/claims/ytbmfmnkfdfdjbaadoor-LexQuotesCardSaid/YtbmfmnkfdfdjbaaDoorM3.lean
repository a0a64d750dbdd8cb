/-
  A quoted text is one token that says it; an escape says its number. No condition.
-/
import Derived.Test.YtbmfmnkfdfdjbaaDoorM1
import Derived.Test.YtbmfmnkfdfdjbaaDoorT2
namespace Go.Proofs.YtbmfmnkfdfdjbaaDoor.D
open Go.RowKit Go.Shelf
set_option linter.unusedVariables false
set_option linter.unusedSimpArgs false

theorem drop_cons {s t : List UInt8} {j : Nat} {a : UInt8} (h : s.drop j = a :: t) : j < s.length ∧ pk s j = a ∧ s.drop (j + 1) = t := by
  have hj : j < s.length := by
    have := congrArg List.length h
    simp at this
    omega
  rw [cons_pk hj] at h
  injection h with h1 h2
  exact ⟨hj, h1, h2⟩
theorem drop_app {s u t : List UInt8} {j : Nat} (h : s.drop j = u ++ t) : s.drop (j + u.length) = t := by
  rw [← List.drop_drop, h, List.drop_left]

/-! ### characters -/
/-- A number that may stand in a text. -/
def Okc (c : Nat) : Prop := c < 65536 ∧ (32 ≤ c ∨ c = 9 ∨ c = 10 ∨ c = 13)
theorem ofNat_toNat {n : Nat} (h : n < 256) : (UInt8.ofNat n).toNat = n := by simp; omega
theorem src_unit {c : Nat} (hc : Okc c) (hs : isSur c = false) (t : List UInt8) : src (unitL c ++ t) = some (c, (unitL c).length) := by
  obtain ⟨h1, h2⟩ := hc
  have hns : c < 55296 ∨ 57343 < c := by
    unfold isSur at hs
    simp at hs
    omega
  have key : ∀ (l : List UInt8) (k : Nat), l ≠ [] → dec l = (c, k) → 1 ≤ k → k ≤ 3 → (c = 65533 → 2 ≤ k) → src l = some (c, k) := fun l k h0 hd k1 k3 hv => by
    have hr : rune l = (c, k) := by
      unfold rune
      rw [if_neg h0, hd, if_neg (by rintro ⟨e1, e2⟩; have := hv e1; simp only at e2; omega)]
    rw [src_some (by rw [hr]; simp only; omega), hr]
  unfold unitL
  split
  · rename_i h
    refine key _ 1 (by simp) ?_ (by omega) (by omega) (by omega)
    unfold dec
    have e : (([UInt8.ofNat c] ++ t).getD 0 0).toNat = c := by simp; omega
    rw [e]
    exact Lib.decodeN_ascii _ _ _ _ _ h
  · split
    · rename_i h h'
      refine key _ 2 (by simp) ?_ (by omega) (by omega) (by omega)
      unfold dec
      have e0 : (([UInt8.ofNat (192 + c / 64), UInt8.ofNat (128 + c % 64)] ++ t).getD 0 0).toNat = 192 + c / 64 := by
        show (UInt8.ofNat (192 + c / 64)).toNat = _
        rw [ofNat_toNat (by omega)]
      have e1 : (([UInt8.ofNat (192 + c / 64), UInt8.ofNat (128 + c % 64)] ++ t).getD 1 0).toNat = 128 + c % 64 := by
        show (UInt8.ofNat (128 + c % 64)).toNat = _
        rw [ofNat_toNat (by omega)]
      rw [e0, e1]
      have hl : 1 < ([UInt8.ofNat (192 + c / 64), UInt8.ofNat (128 + c % 64)] ++ t).length := by simp
      unfold Lib.decodeN
      rw [if_neg (by omega), if_pos ⟨by omega, hl, by omega⟩, if_pos (by omega)]
      congr 1
      omega
    · rename_i h h'
      refine key _ 3 (by simp) ?_ (by omega) (by omega) (by omega)
      unfold dec
      have e0 : (([UInt8.ofNat (224 + c / 4096), UInt8.ofNat (128 + c / 64 % 64), UInt8.ofNat (128 + c % 64)] ++ t).getD 0 0).toNat = 224 + c / 4096 := by
        show (UInt8.ofNat (224 + c / 4096)).toNat = _
        rw [ofNat_toNat (by omega)]
      have e1 : (([UInt8.ofNat (224 + c / 4096), UInt8.ofNat (128 + c / 64 % 64), UInt8.ofNat (128 + c % 64)] ++ t).getD 1 0).toNat = 128 + c / 64 % 64 := by
        show (UInt8.ofNat (128 + c / 64 % 64)).toNat = _
        rw [ofNat_toNat (by omega)]
      have e2 : (([UInt8.ofNat (224 + c / 4096), UInt8.ofNat (128 + c / 64 % 64), UInt8.ofNat (128 + c % 64)] ++ t).getD 2 0).toNat = 128 + c % 64 := by
        show (UInt8.ofNat (128 + c % 64)).toNat = _
        rw [ofNat_toNat (by omega)]
      rw [e0, e1, e2]
      have hl : 2 < ([UInt8.ofNat (224 + c / 4096), UInt8.ofNat (128 + c / 64 % 64), UInt8.ofNat (128 + c % 64)] ++ t).length := by simp
      have ee : (224 + c / 4096) % 16 * 4096 + (128 + c / 64 % 64) % 64 * 64 + (128 + c % 64) % 64 = c := by omega
      unfold Lib.decodeN
      rw [ee, if_neg (by omega), if_neg (by omega), if_pos ⟨by omega, ⟨by omega, by omega⟩, hl, by omega⟩, if_pos ⟨by omega, by omega⟩]

/-! ### escapes -/
theorem esc_num {s t : List UInt8} {i : Nat} {a b c d : UInt8} (h : s.drop i = [117, a, b, c, d] ++ t) (ha : hexB.contains a = true) (hb : hexB.contains b = true) (hc : hexB.contains c = true) (hd : hexB.contains d = true) :
    esc s i = some (unitL (hexV [a, b, c, d]), i + 5) := by
  obtain ⟨h0, p0, q0⟩ := drop_cons (show s.drop i = 117 :: (a :: b :: c :: d :: t) from h)
  obtain ⟨h1, p1, q1⟩ := drop_cons q0
  obtain ⟨h2, p2, q2⟩ := drop_cons q1
  obtain ⟨h3, p3, q3⟩ := drop_cons q2
  obtain ⟨h4, p4, q4⟩ := drop_cons q3
  unfold esc
  rw [if_neg (by omega), p0, if_neg (by decide), if_pos rfl]
  have hx : hex4 s (i + 1) = true := by
    unfold hex4
    simp only [Bool.and_eq_true, decide_eq_true_eq]
    refine ⟨by omega, by rw [p1]; exact ha, by rw [p2]; exact hb, by rw [p3]; exact hc, ?_⟩
    rw [show i + 1 + 3 = i + 1 + 1 + 1 + 1 from rfl, p4]
    exact hd
  rw [if_pos hx, q0]
  rfl
theorem esc_sign {s t : List UInt8} {i : Nat} {c : UInt8} (h : s.drop i = c :: t) (hc : c = 34 ∨ c = 92) : esc s i = some ([c], i + 1) := by
  obtain ⟨h0, p0, q0⟩ := drop_cons h
  unfold esc
  rw [if_neg (by omega), p0]
  rcases hc with rfl | rfl <;> rfl
def b16C : List UInt8 := [48, 49, 50, 51, 52, 53, 54, 55, 56, 57, 65, 66, 67, 68, 69, 70]
def hxC (d : Nat) : UInt8 := pk b16C d
theorem hx_all : ∀ d : Fin 16, hexB.contains (hx d.1) = true ∧ hv (hx d.1) = d.1 ∧ hexB.contains (hxC d.1) = true ∧ hv (hxC d.1) = d.1 := by decide
theorem hexV_4 (a b c d : UInt8) : hexV [a, b, c, d] = ((hv a * 16 + hv b) * 16 + hv c) * 16 + hv d := by simp [hexV]
theorem hexV_esc {n : Nat} (hn : n < 65536) : hexV [hx (n / 4096 % 16), hx (n / 256 % 16), hx (n / 16 % 16), hx (n % 16)] = n := by
  have a := (hx_all ⟨n / 4096 % 16, Nat.mod_lt _ (by decide)⟩).2.1
  have b := (hx_all ⟨n / 256 % 16, Nat.mod_lt _ (by decide)⟩).2.1
  have c := (hx_all ⟨n / 16 % 16, Nat.mod_lt _ (by decide)⟩).2.1
  have d := (hx_all ⟨n % 16, Nat.mod_lt _ (by decide)⟩).2.1
  simp only at a b c d
  rw [hexV_4, a, b, c, d]
  omega
theorem hexV_escC {n : Nat} (hn : n < 65536) : hexV [hxC (n / 4096 % 16), hxC (n / 256 % 16), hxC (n / 16 % 16), hxC (n % 16)] = n := by
  have a := (hx_all ⟨n / 4096 % 16, Nat.mod_lt _ (by decide)⟩).2.2.2
  have b := (hx_all ⟨n / 256 % 16, Nat.mod_lt _ (by decide)⟩).2.2.2
  have c := (hx_all ⟨n / 16 % 16, Nat.mod_lt _ (by decide)⟩).2.2.2
  have d := (hx_all ⟨n % 16, Nat.mod_lt _ (by decide)⟩).2.2.2
  simp only at a b c d
  rw [hexV_4, a, b, c, d]
  omega
theorem hx_hex (n : Nat) : hexB.contains (hx (n % 16)) = true := (hx_all ⟨n % 16, Nat.mod_lt _ (by decide)⟩).1
theorem hxC_hex (n : Nat) : hexB.contains (hxC (n % 16)) = true := (hx_all ⟨n % 16, Nat.mod_lt _ (by decide)⟩).2.2.1

/-! ### a string's pieces -/
/-- A backslash, and what its escape says. -/
theorem text_esc {q t l : List UInt8} {j e : Nat} (h : q.drop j = 92 :: t) (he : esc q (j + 1) = some (l, e)) : textP q j = (textP q e).map (fun z => (l ++ z.1, z.2)) := by
  have hs : src (q.drop j) = some (92, 1) := by
    rw [h]
    have := src_ascii (l := 92 :: t) (by simp) (by simp) (by simp)
    simpa using this
  rw [textP_un hs, if_neg (by omega), if_neg (by omega), if_pos rfl, he]
  rfl
theorem text_char {q t : List UInt8} {j c : Nat} (hc : Okc c) (hs : isSur c = false) (h1 : c ≠ 10) (h2 : c ≠ 13) (h3 : c ≠ 34) (h4 : c ≠ 92) (h : q.drop j = unitL c ++ t) :
    textP q j = (textP q (j + (unitL c).length)).map (fun z => (unitL c ++ z.1, z.2)) := by
  have hsr : src (q.drop j) = some (c, (unitL c).length) := by rw [h]; exact src_unit hc hs t
  rw [textP_un hsr, if_neg (by omega), if_neg h3, if_neg h4, h, List.take_left]
theorem text_end {q t : List UInt8} {j : Nat} (h : q.drop j = 34 :: t) : textP q j = some ([], j + 1) := by
  have hs : src (q.drop j) = some (34, 1) := by
    rw [h]
    have := src_ascii (l := 34 :: t) (by simp) (by simp) (by simp)
    simpa using this
  rw [textP_un hs, if_neg (by omega), if_pos rfl]
/-- What a number is quoted as. -/
def piece (c : Nat) : List UInt8 := if isSur c then esc4 c else if c = 34 ∨ c = 92 then [92] ++ unitL c else if c < 32 ∨ c = 127 then esc4 c else unitL c
theorem unit_small {c : Nat} (h : c < 128) : unitL c = [UInt8.ofNat c] := by unfold unitL; rw [if_pos h]
theorem text_piece {q t : List UInt8} {j c : Nat} (hc : Okc c) (h : q.drop j = piece c ++ t) :
    textP q j = (textP q (j + (piece c).length)).map (fun z => (unitL c ++ z.1, z.2)) := by
  have hesc : q.drop j = esc4 c ++ t → textP q j = (textP q (j + (esc4 c).length)).map (fun z => (unitL c ++ z.1, z.2)) := fun h => by
    have e := esc_num (s := q) (i := j + 1) (t := t) (a := hx (c / 4096 % 16)) (b := hx (c / 256 % 16)) (c := hx (c / 16 % 16)) (d := hx (c % 16)) (drop_cons (show q.drop j = 92 :: ([117, hx (c / 4096 % 16), hx (c / 256 % 16), hx (c / 16 % 16), hx (c % 16)] ++ t) from h)).2.2 (hx_hex _) (hx_hex _) (hx_hex _) (hx_hex _)
    rw [hexV_esc hc.1] at e
    rw [text_esc h e]
    rfl
  unfold piece at h ⊢
  split at h
  · rename_i h1
    rw [if_pos h1]
    exact hesc h
  · rename_i h1
    rw [if_neg h1]
    split at h
    · rename_i h2
      rw [if_pos h2]
      have hu : unitL c = [UInt8.ofNat c] := unit_small (by omega)
      rw [hu] at h ⊢
      have hq : UInt8.ofNat c = 34 ∨ UInt8.ofNat c = 92 := by
        rcases h2 with rfl | rfl
        · exact Or.inl rfl
        · exact Or.inr rfl
      have e := esc_sign (drop_cons (show q.drop j = 92 :: (UInt8.ofNat c :: t) from h)).2.2 hq
      rw [text_esc h e]
      rfl
    · rename_i h2
      rw [if_neg h2]
      split at h
      · rename_i h3
        rw [if_pos h3]
        exact hesc h
      · rename_i h3
        rw [if_neg h3]
        exact text_char hc (Bool.eq_false_iff.2 h1) (by omega) (by omega) (by omega) (by omega) h

/-! ### a quoted text's pieces -/
theorem quote_plain {b t : List UInt8} {i : Nat} {x : UInt8} (h : b.drop i = x :: t) (hl : loneC (x :: t) = false) (h1 : x.toNat ≠ 34) (h2 : x.toNat ≠ 92) (h3 : ¬ (x.toNat < 32 ∨ x.toNat = 127)) : quoteAt b i = [x] ++ quoteAt b (i + 1) := by
  obtain ⟨h0, p0, q0⟩ := drop_cons h
  have n1 : ¬ (x = 34 ∨ x = 92) := by
    rintro (e | e)
    · rw [e] at h1; exact h1 rfl
    · rw [e] at h2; exact h2 rfl
  rw [quoteAt_un b i (by omega), if_neg (by omega), h, hl, if_neg (by decide), p0, if_neg n1, if_neg h3]
theorem lone_no237 {x : UInt8} {t : List UInt8} (h : x.toNat ≠ 237) : loneC (x :: t) = false := by
  unfold loneC
  rw [show pk (x :: t) 0 = x from rfl, decide_eq_false h]
  simp
theorem quote_piece {b t : List UInt8} {i c : Nat} (hc : Okc c) (h : b.drop i = unitL c ++ t) : quoteAt b i = piece c ++ quoteAt b (i + (unitL c).length) := by
  by_cases c1 : c < 128
  · have hu := unit_small c1
    have hx : (UInt8.ofNat c).toNat = c := ofNat_toNat (by omega)
    have hsur : isSur c = false := by unfold isSur; rw [decide_eq_false (by omega)]; rfl
    rw [hu] at h ⊢
    obtain ⟨h0, p0, q0⟩ := drop_cons h
    have hl : loneC (b.drop i) = false := by rw [h]; exact lone_no237 (by omega)
    have hq : (UInt8.ofNat c = 34 ∨ UInt8.ofNat c = 92) ↔ (c = 34 ∨ c = 92) := by
      constructor
      · rintro (e | e)
        · left; rw [e] at hx; exact hx.symm
        · right; rw [e] at hx; exact hx.symm
      · rintro (rfl | rfl)
        · exact Or.inl rfl
        · exact Or.inr rfl
    rw [quoteAt_un b i (by omega), if_neg (by omega), hl, if_neg (by decide), p0, hx]
    have hp : piece c = if c = 34 ∨ c = 92 then [92] ++ [UInt8.ofNat c] else if c < 32 ∨ c = 127 then esc4 c else [UInt8.ofNat c] := by unfold piece; rw [hsur, hu]; rfl
    rw [hp]
    by_cases k1 : c = 34 ∨ c = 92
    · rw [if_pos (hq.2 k1), if_pos k1]
      rfl
    · rw [if_neg (fun e => k1 (hq.1 e)), if_neg k1]
      by_cases k2 : c < 32 ∨ c = 127
      · rw [if_pos k2, if_pos k2]
        rfl
      · rw [if_neg k2, if_neg k2]
        rfl
  · have h6 := hc.1
    by_cases c2 : c < 2048
    · have hu : unitL c = [UInt8.ofNat (192 + c / 64), UInt8.ofNat (128 + c % 64)] := by unfold unitL; rw [if_neg c1, if_pos c2]
      have hsur : isSur c = false := by unfold isSur; rw [decide_eq_false (by omega)]; rfl
      have x0 : (UInt8.ofNat (192 + c / 64)).toNat = 192 + c / 64 := ofNat_toNat (by omega)
      have x1 : (UInt8.ofNat (128 + c % 64)).toNat = 128 + c % 64 := ofNat_toNat (by omega)
      unfold piece
      rw [hsur, if_neg (by decide), if_neg (by omega), if_neg (by omega), hu]
      rw [hu] at h
      have h' : b.drop i = UInt8.ofNat (192 + c / 64) :: (UInt8.ofNat (128 + c % 64) :: t) := h
      rw [quote_plain h' (lone_no237 (by omega)) (by omega) (by omega) (by omega), quote_plain (drop_cons h').2.2 (lone_no237 (by omega)) (by omega) (by omega) (by omega)]
      rfl
    · have hu : unitL c = [UInt8.ofNat (224 + c / 4096), UInt8.ofNat (128 + c / 64 % 64), UInt8.ofNat (128 + c % 64)] := by unfold unitL; rw [if_neg c1, if_neg c2]
      have x0 : (UInt8.ofNat (224 + c / 4096)).toNat = 224 + c / 4096 := ofNat_toNat (by omega)
      have x1 : (UInt8.ofNat (128 + c / 64 % 64)).toNat = 128 + c / 64 % 64 := ofNat_toNat (by omega)
      have x2 : (UInt8.ofNat (128 + c % 64)).toNat = 128 + c % 64 := ofNat_toNat (by omega)
      rw [hu] at h ⊢
      have h' : b.drop i = UInt8.ofNat (224 + c / 4096) :: (UInt8.ofNat (128 + c / 64 % 64) :: (UInt8.ofNat (128 + c % 64) :: t)) := h
      have hl : loneC (b.drop i) = isSur c := by
        rw [h']
        unfold loneC isSur
        rw [show pk (UInt8.ofNat (224 + c / 4096) :: (UInt8.ofNat (128 + c / 64 % 64) :: (UInt8.ofNat (128 + c % 64) :: t))) 0 = UInt8.ofNat (224 + c / 4096) from rfl,
          show pk (UInt8.ofNat (224 + c / 4096) :: (UInt8.ofNat (128 + c / 64 % 64) :: (UInt8.ofNat (128 + c % 64) :: t))) 1 = UInt8.ofNat (128 + c / 64 % 64) from rfl,
          show pk (UInt8.ofNat (224 + c / 4096) :: (UInt8.ofNat (128 + c / 64 % 64) :: (UInt8.ofNat (128 + c % 64) :: t))) 2 = UInt8.ofNat (128 + c % 64) from rfl, x0, x1, x2]
        rw [decide_eq_true (p := 3 ≤ _) (by simp), decide_eq_true (p := 128 ≤ 128 + c % 64) (by omega), decide_eq_true (p := 128 + c % 64 ≤ 191) (by omega), decide_eq_true (p := 128 + c / 64 % 64 ≤ 191) (by omega)]
        by_cases e1 : 55296 ≤ c
        · by_cases e2 : c ≤ 57343
          · rw [decide_eq_true e1, decide_eq_true e2, decide_eq_true (by omega), decide_eq_true (by omega)]; rfl
          · rw [decide_eq_false e2, decide_eq_false (p := 224 + c / 4096 = 237) (by omega)]; simp
        · rw [decide_eq_false e1]
          by_cases e3 : 224 + c / 4096 = 237
          · rw [decide_eq_false (p := 160 ≤ 128 + c / 64 % 64) (by omega)]; simp
          · rw [decide_eq_false e3]; simp
      unfold piece
      cases hsur : isSur c with
      | true =>
        rw [if_pos rfl]
        rw [hsur] at hl
        have hr : 55296 ≤ c ∧ c ≤ 57343 := by unfold isSur at hsur; simpa using hsur
        have hn : loneN (b.drop i) = c := by
          rw [h']
          unfold loneN
          show 53248 + (UInt8.ofNat (128 + c / 64 % 64)).toNat % 64 * 64 + (UInt8.ofNat (128 + c % 64)).toNat % 64 = c
          rw [x1, x2]
          omega
        rw [quoteAt_un b i (by have := (drop_cons h').1; omega), if_neg (by have := (drop_cons h').1; omega), hl, if_pos rfl, hn]
        rfl
      | false =>
        rw [if_neg (by decide), if_neg (by omega), if_neg (by omega), hu]
        rw [hsur, h'] at hl
        rw [quote_plain h' hl (by omega) (by omega) (by omega), quote_plain (drop_cons h').2.2 (lone_no237 (by omega)) (by omega) (by omega) (by omega), quote_plain (drop_cons (drop_cons h').2.2).2.2 (lone_no237 (by omega)) (by omega) (by omega) (by omega)]
        rfl
theorem unit_pos (c : Nat) : 1 ≤ (unitL c).length := by
  unfold unitL
  repeat' split
  all_goals simp
def unitsL (cs : List Nat) : List UInt8 := cs.flatMap unitL
def piecesL (cs : List Nat) : List UInt8 := cs.flatMap piece
theorem quote_all : ∀ (cs : List Nat) (b : List UInt8) (i : Nat), (∀ c ∈ cs, Okc c) → b.drop i = unitsL cs → i ≤ b.length → quoteAt b i = piecesL cs
  | [], b, i, hc, h, hi => by
    have : b.length ≤ i := by
      have := congrArg List.length h
      simp [unitsL] at this
      omega
    rw [quoteAt_un b i hi, if_pos this]
    rfl
  | c :: cs, b, i, hc, h, hi => by
    have h' : b.drop i = unitL c ++ unitsL cs := by rw [h]; simp [unitsL]
    have hl := congrArg List.length h'
    simp only [List.length_drop, List.length_append] at hl
    have hpos : 1 ≤ (unitL c).length := unit_pos c
    rw [quote_piece (hc c (by simp)) h', quote_all cs b _ (fun x hx => hc x (by simp [hx])) (drop_app h') (by omega)]
    simp [piecesL]
theorem text_all : ∀ (cs : List Nat) (q : List UInt8) (j : Nat), (∀ c ∈ cs, Okc c) → q.drop j = piecesL cs ++ [34] → textP q j = some (unitsL cs, j + (piecesL cs).length + 1)
  | [], q, j, hc, h => by
    rw [text_end (show q.drop j = 34 :: [] from h)]
    rfl
  | c :: cs, q, j, hc, h => by
    have h' : q.drop j = piece c ++ (piecesL cs ++ [34]) := by rw [h]; simp [piecesL]
    rw [text_piece (hc c (by simp)) h', text_all cs q _ (fun x hx => hc x (by simp [hx])) (drop_app h')]
    simp only [Option.map_some, Option.some.injEq, Prod.mk.injEq]
    refine ⟨by simp [unitsL], ?_⟩
    simp only [piecesL, List.flatMap_cons, List.length_append]
    omega
/-- A string is one token, if it does not begin as a block string. -/
theorem one_text {q : List UInt8} {l : List UInt8} (h0 : pk q 0 = 34) (hl : 1 ≤ q.length) (hb : hasP q 0 qqqB = false) (ht : textP q 1 = some (l, q.length)) (hq : q.length ≤ 16384) : lexP q = .ok [⟨4, l, 0, q.length⟩] := by
  have htk : tok1 q 0 = .ok (4, l, q.length) := by
    have hd : hasP q 0 dotsB = false := by
      cases e : hasP q 0 dotsB with
      | false => rfl
      | true => have := (has_head e).2; rw [h0] at this; cases this
    rw [tok_txt hd (by rw [h0]; decide) (by rw [h0]; decide) (by rw [h0]; decide) hb (by rw [h0]; rfl), ht]
  refine lexP_iff.2 ⟨hq, .cons (Nat.le_refl _) (by omega) ?_ htk (.nil (Nat.le_refl _) ?_), by simp⟩
  · exact ign_tok (by omega) htk
  · rw [List.drop_eq_nil_of_le (Nat.le_refl _), Nat.sub_self]
    rfl
theorem piece_head (c : Nat) (hc : Okc c) : ∃ x t, piece c = x :: t ∧ x ≠ 34 := by
  unfold piece
  split
  · exact ⟨92, _, rfl, by decide⟩
  · split
    · exact ⟨92, _, rfl, by decide⟩
    · split
      · exact ⟨92, _, rfl, by decide⟩
      · rename_i h1 h2 h3
        unfold unitL
        have h6 := hc.1
        split
        · refine ⟨_, _, rfl, fun e => ?_⟩
          have := congrArg UInt8.toNat e
          rw [ofNat_toNat (by omega)] at this
          exact h2 (Or.inl this)
        · split
          · refine ⟨_, _, rfl, fun e => ?_⟩
            have := congrArg UInt8.toNat e
            rw [ofNat_toNat (by omega)] at this
            have : 192 + c / 64 = 34 := this
            omega
          · refine ⟨_, _, rfl, fun e => ?_⟩
            have := congrArg UInt8.toNat e
            rw [ofNat_toNat (by omega)] at this
            have : 224 + c / 4096 = 34 := this
            omega
theorem quotes_plain (cs : List Nat) (hc : ∀ c ∈ cs, Okc c) (hq : (quoteB (unitsL cs)).length ≤ 16384) : lexP (quoteB (unitsL cs)) = .ok [⟨4, unitsL cs, 0, (quoteB (unitsL cs)).length⟩] := by
  have e := quote_all cs (unitsL cs) 0 hc rfl (Nat.zero_le _)
  have eq : quoteB (unitsL cs) = [34] ++ piecesL cs ++ [34] := by unfold quoteB; rw [e]
  obtain ⟨q, hq0⟩ : ∃ q, q = quoteB (unitsL cs) := ⟨_, rfl⟩
  rw [← hq0] at hq eq ⊢
  have hl : q.length = (piecesL cs).length + 2 := by rw [eq]; simp
  have hd : q.drop 1 = piecesL cs ++ [34] := by rw [eq]; simp
  refine one_text (by rw [eq]; rfl) (by omega) ?_ ?_ hq
  · cases e : hasP q 0 qqqB with
    | false => rfl
    | true =>
      have h3 := has3.1 e
      cases cs with
      | nil =>
        have : q.length = 2 := by rw [hl]; rfl
        omega
      | cons c cs =>
        obtain ⟨x, t, hx, hne⟩ := piece_head c (hc c (by simp))
        have : pk q 1 = x := by
          have h := drop_cons (show q.drop 1 = x :: (t ++ piecesL cs ++ [34]) by rw [hd]; simp [piecesL, hx])
          exact h.2.1
        exact absurd (this.symm.trans h3.2.2.1) hne
  · rw [text_all cs q 1 hc hd, hl]
    congr 2
    omega
theorem escapes_plain {n : Nat} (hn : n < 65536) (a b c d : UInt8) (ha : hexB.contains a = true) (hb : hexB.contains b = true) (hc : hexB.contains c = true) (hd : hexB.contains d = true) (hv : hexV [a, b, c, d] = n) :
    lexP [34, 120, 92, 117, a, b, c, d, 121, 34] = .ok [⟨4, [120] ++ unitL n ++ [121], 0, 10⟩] := by
  refine one_text (q := [34, 120, 92, 117, a, b, c, d, 121, 34]) rfl (by simp) (by simp [hasP, qqqB, List.isPrefixOf]) ?_ (by simp)
  have h1 := text_char (q := [34, 120, 92, 117, a, b, c, d, 121, 34]) (j := 1) (c := 120) (t := [92, 117, a, b, c, d, 121, 34]) ⟨by decide, by decide⟩ rfl (by decide) (by decide) (by decide) (by decide) rfl
  have he := esc_num (s := [34, 120, 92, 117, a, b, c, d, 121, 34]) (i := 3) (t := [121, 34]) rfl ha hb hc hd
  rw [hv] at he
  have h2 := text_esc (q := [34, 120, 92, 117, a, b, c, d, 121, 34]) (j := 2) (t := [117, a, b, c, d, 121, 34]) rfl he
  have h3 := text_char (q := [34, 120, 92, 117, a, b, c, d, 121, 34]) (j := 8) (c := 121) (t := [34]) ⟨by decide, by decide⟩ rfl (by decide) (by decide) (by decide) (by decide) rfl
  have h4 := text_end (q := [34, 120, 92, 117, a, b, c, d, 121, 34]) (j := 9) (t := []) rfl
  rw [h1]
  show (textP [34, 120, 92, 117, a, b, c, d, 121, 34] 2).map _ = _
  rw [h2]
  show ((textP [34, 120, 92, 117, a, b, c, d, 121, 34] 8).map _).map _ = _
  rw [h3]
  show (((textP [34, 120, 92, 117, a, b, c, d, 121, 34] 9).map _).map _).map _ = _
  rw [h4]
  simp only [Option.map_some]
  rw [show unitL 120 = [120] from rfl, show unitL 121 = [121] from rfl, List.append_nil, List.append_assoc]
  rfl

end Go.Proofs.YtbmfmnkfdfdjbaaDoor.D
