/-
  The document's pager: form, Head, number, is. No condition beyond the sizes that are named.
-/
import Derived.Test.YtjkhcfdflcndkaaGreatKO15
import Derived.Test.YtjkhcfdflcndkaaGreatKO20
namespace Go.Proofs.YtjkhcfdflcndkaaGreat.D
open Go.RowKit Go.Maps Go.Shelf
set_option linter.unusedVariables false
set_option linter.unusedSimpArgs false

theorem rd_set (n k j : Nat) (hj : j < k) : (bytesOf (List.replicate (k - j) 0 ++ be j n)).toArray.setIfInBounds (k - 1 - j) (.int .u8 (((n / 256 ^ j : Nat) : Int) % 256)) = (bytesOf (List.replicate (k - (j + 1)) 0 ++ be (j + 1) n)).toArray := by
  obtain ⟨m, hm⟩ : ∃ m, k - j = m + 1 := ⟨k - j - 1, by omega⟩
  have hm2 : k - (j + 1) = m := by omega
  have hm3 : k - 1 - j = m := by omega
  have e : Value.int .u8 (((n / 256 ^ j : Nat) : Int) % 256) = .int .u8 (((UInt8.ofNat (n / 256 ^ j)).toNat : Nat) : Int) := by
    congr 1
  rw [e, hm, hm2, hm3, be_head]
  apply Array.ext'
  rw [List.replicate_succ']
  simp only [List.setIfInBounds_toArray, bytesOf, List.map_append, List.map_cons, List.map_nil, List.append_assoc, List.map_replicate]
  rw [List.set_append_right _ _ (by simp)]
  simp

set_option maxHeartbeats 4000000 in
set_option maxRecDepth 100000 in
theorem rbig_c (w : World) (n k : Nat) (K : Int) (hK : K = (k : Int)) (hn : n ≤ 9223372036854775807) (hk : k ≤ 8) :
    Calls Tryz.prog 85 #[.int .i64 n, .int .i64 K] w fun e w' => e = .returned (.string (bs (be k n))) ∧ Fr (fun _ => False) w w' := by
  subst hK
  have hmk := mk_row k (by omega) w
  have hW := hid (MapKept.heap_alloc w (.cells (bytesOf (List.replicate k 0)).toArray 5)).1
  have hF0 := hid (show Fr (fun _ => False) w (w.alloc (.cells (bytesOf (List.replicate k 0)).toArray 5)) from (Fr.refl _ w).alloc _)
  go_enter Tryz.func85, Tryz.ntmps85
  go_wp2_with fail
  go_loopw [0, 6] (fun v i wr => ∃ j : Nat, v = .int .i64 ((n / 256 ^ j : Nat) : Int) ∧ i = .int .i64 ((k : Int) - 1 - j) ∧ j ≤ k ∧ Hid (wr.heap[w.heap.size]? = some (.cells (bytesOf (List.replicate (k - j) 0 ++ be j n)).toArray 5)) ∧ Hid (Fr (fun _ => False) w wr)) (fun _ i _ => (intOf i + 1).toNat)
  case atStart => exact ⟨0, by simp, by simp, by omega, hid (by have := hW.out; simpa [be] using this), hF0⟩
  case round =>
    obtain ⟨j, rfl, rfl, hj, HR, HF⟩ := hrel
    by_cases hend : j = k
    · subst hend
      have hback := row_str (be j n) j w.heap.size (0, 0) wr (by have := HR.out; simpa using this)
      rw [be_length] at hback
      go_wp2
      go_ret
      exact ⟨rfl, HF.out⟩
    · have hj' : j < k := by omega
      obtain ⟨N, hN⟩ : ∃ N, N = n / 256 ^ j := ⟨_, rfl⟩
      have hN2 : N ≤ 9223372036854775807 := by rw [hN]; exact Nat.le_trans (Nat.div_le_self _ _) hn
      have hset := rd_set n k j hj'
      rw [← hN] at hset ⊢
      have hN3 : N / 256 = n / 256 ^ (j + 1) := by rw [hN, Nat.div_div_eq_div_mul, Nat.pow_succ]
      have cc : wr.cell? ⟨w.heap.size, k - 1 - j, none⟩ = some (.int .u8 0) := by
        rw [cell_at HR.out]
        obtain ⟨m, hm⟩ : ∃ m, k - j = m + 1 := ⟨k - j - 1, by omega⟩
        have hm3 : k - 1 - j = m := by omega
        rw [hm, hm3, List.replicate_succ']
        simp [bytesOf]
      have ff : wr.frozen? ⟨w.heap.size, k - 1 - j, none⟩ = false := frozen_at HR.out _
      have HSET := hid hset
      have HN3 := hid hN3
      have e2 : (k : Int) - 1 - j = ((k - 1 - j : Nat) : Int) := by omega
      clear hset hN3 hN hend
      rw [e2]
      go_wp2
      refine ⟨⟨j + 1, by rw [← HN3.out]; rfl, by congr 1; omega, by omega, hid ?_, hid ?_⟩, ?_⟩
      · rw [set_at HR.out, HSET.out]
      · exact HF.out.setCell _ (fun h => by simp at h) _
      · simp only [intOf]; omega

/-- The document's form. -/
theorem rform_c (w : World) (m b1 b2 : Nat) (s : St) (h : RA w m b1 b2 s) (hs : s.Ok) (f c n : Int) (hf : -9223372036854775808 ≤ f) (hf2 : f ≤ 9223372036854775807) :
    Calls Tryz.prog 46 #[.pointer (some ⟨m, 0, none⟩), .int .i64 f, .int .i64 c, .int .i64 n] w fun e w' => e = .returned (.int .i64 (pchk s f c n)) ∧ w' = w := by
  obtain ⟨N, hN⟩ : ∃ N, N = s.n := ⟨_, rfl⟩
  obtain ⟨⟨q1, q2, kv, h1, _⟩, _⟩ := h
  rw [← hN] at h1
  have k0 : w.cell? ⟨m, 0, none⟩ = some (.slice (some ⟨b1, 0, none⟩) N q1) := cell_at h1 0
  have k4 : w.cell? ⟨m, 4, none⟩ = some (.bool s.dead) := cell_at h1 4
  have hn : N ≤ 4096 := hN ▸ hs.n2
  have HE := hid (show pchk s f c n = if f < 2 ∨ c < 1 ∨ 4096 < c ∨ (N : Int) < f ∨ (N : Int) - f < 8 * c ∨ n < 1 ∨ 1152921504606846976 < n then 190 else if s.dead then 2 else 0 by rw [hN]; rfl)
  clear h1 hs hN
  by_cases a0 : f < 2
  · rw [HE.out, if_pos (by omega)]
    go_enter Tryz.func46, Tryz.ntmps46
    go_wp2_with fail
    go_ret
    exact ⟨rfl, rfl⟩
  by_cases a1 : c < 1
  · rw [HE.out, if_pos (by omega)]
    go_enter Tryz.func46, Tryz.ntmps46
    go_wp2_with fail
    go_ret
    exact ⟨rfl, rfl⟩
  by_cases a2 : 4096 < c
  · rw [HE.out, if_pos (by omega)]
    go_enter Tryz.func46, Tryz.ntmps46
    go_wp2_with fail
    go_ret
    exact ⟨rfl, rfl⟩
  by_cases a3 : (N : Int) < f
  · rw [HE.out, if_pos (by omega)]
    go_enter Tryz.func46, Tryz.ntmps46
    go_wp2_with fail
    go_ret
    exact ⟨rfl, rfl⟩
  have x1 : IntKind.i64.wrap ((N : Int) - f) = (N : Int) - f := by rw [IntKind.wrap_i64]; omega
  have x2 : IntKind.i64.wrap (8 * c) = 8 * c := by rw [IntKind.wrap_i64]; omega
  by_cases a4 : (N : Int) - f < 8 * c
  · rw [HE.out, if_pos (by omega)]
    go_enter Tryz.func46, Tryz.ntmps46
    go_wp2_with fail
    go_ret
    exact ⟨rfl, rfl⟩
  by_cases a5 : n < 1
  · rw [HE.out, if_pos (by omega)]
    go_enter Tryz.func46, Tryz.ntmps46
    go_wp2_with fail
    go_ret
    exact ⟨rfl, rfl⟩
  by_cases a6 : 1152921504606846976 < n
  · rw [HE.out, if_pos (by omega)]
    go_enter Tryz.func46, Tryz.ntmps46
    go_wp2_with fail
    go_ret
    exact ⟨rfl, rfl⟩
  cases hd : s.dead with
  | true =>
    have HZ := hid (show pchk s f c n = 2 by rw [HE.out, if_neg (by omega), hd]; rfl)
    rw [hd] at k4
    rw [HZ.out]
    clear hd HE
    go_enter Tryz.func46, Tryz.ntmps46
    go_wp2_with fail
    go_ret
    exact ⟨rfl, rfl⟩
  | false =>
    have HZ := hid (show pchk s f c n = 0 by rw [HE.out, if_neg (by omega), hd]; rfl)
    rw [hd] at k4
    rw [HZ.out]
    clear hd HE
    go_enter Tryz.func46, Tryz.ntmps46
    go_wp2_with fail
    go_ret
    exact ⟨rfl, rfl⟩

/-- The document's Head. -/
theorem rhead_c (w : World) (gen rp fr : Nat) (r : Int) (hr : r + 1 = (rp : Int)) (hg : gen ≤ 1152921504606846977) (hp : rp ≤ 1000000) (hf : fr ≤ 1152921504606846976) :
    Calls Tryz.prog 49 #[.int .i64 gen, .int .i64 r, .int .i64 fr] w fun e w' => e = .returned (.string (bs (headB gen rp fr))) ∧ Fr (fun _ => False) w w' := by
  obtain ⟨B1, hB1⟩ : ∃ B, B = be 8 gen := ⟨_, rfl⟩
  obtain ⟨B2, hB2⟩ : ∃ B, B = be 4 rp := ⟨_, rfl⟩
  obtain ⟨B3, hB3⟩ : ∃ B, B = be 8 fr := ⟨_, rfl⟩
  have H1 := hid (fun W : World => show Calls Tryz.prog 85 #[.int .i64 gen, .int .i64 8] W fun e w' => e = .returned (.string (bs B1)) ∧ Fr (fun _ => False) W w' from hB1 ▸ rbig_c W gen 8 8 rfl (by omega) (by decide))
  have H2 := hid (fun W : World => show Calls Tryz.prog 85 #[.int .i64 rp, .int .i64 4] W fun e w' => e = .returned (.string (bs B2)) ∧ Fr (fun _ => False) W w' from hB2 ▸ rbig_c W rp 4 4 rfl (by omega) (by decide))
  have H3 := hid (fun W : World => show Calls Tryz.prog 85 #[.int .i64 fr, .int .i64 8] W fun e w' => e = .returned (.string (bs B3)) ∧ Fr (fun _ => False) W w' from hB3 ▸ rbig_c W fr 8 8 rfl (by omega) (by decide))
  have l1 : B1.length = 8 := by rw [hB1, be_length]
  have l2 : B2.length = 4 := by rw [hB2, be_length]
  have l3 : B3.length = 8 := by rw [hB3, be_length]
  have hmk : ∀ W : World, (Instr.makeSlice 60 (.int .i64 40) (.int .i64 40)).run Tryz.prog W = .ok (.slice (some ⟨W.heap.size, 0, none⟩) 40 40) (W.alloc (.cells (bytesOf (zero 40)).toArray 5)) := fun W => mkz 40 (by omega) W
  have hms := fun W : World => mks 40 W
  obtain ⟨Z, hZ⟩ : ∃ Z, Z = zero 40 := ⟨_, rfl⟩
  have lz : Z.length = 40 := by rw [hZ]; simp [zero]
  rw [← hZ] at hmk hms
  have HE := hid (show headB gen rp fr = [82, 90, 72, 49] ++ B1 ++ B2 ++ B3 ++ Z by rw [hB1, hB2, hB3, hZ]; rfl)
  have c0 : bs ([82, 90, 72, 49] : List UInt8) = ⟨#[82, 90, 72, 49]⟩ := rfl
  have hmk' : (Instr.makeSlice 60 (.int .i64 40) (.int .i64 40)) = (Instr.makeSlice 60 (.int .i64 40) (.int .i64 40)) := rfl
  clear hB1 hB2 hB3 hZ hmk'
  go_enter Tryz.func49, Tryz.ntmps49
  go_wp2_with fail
  refine (H1.out _).mono ?_
  rintro e w2 ⟨rfl, hf2⟩
  have HF2 := hid hf2
  clear hf2
  go_wp2_with fail
  refine (H2.out _).mono ?_
  rintro e w3 ⟨rfl, hf3⟩
  have HF3 := hid (HF2.out.trans hf3 (fun _ _ f => f))
  clear hf3
  go_wp2_with fail
  refine (H3.out _).mono ?_
  rintro e w4 ⟨rfl, hf4⟩
  have HF4 := hid (HF3.out.trans hf4 (fun _ _ f => f))
  clear hf4
  go_wp2_with fail
  go_ret
  refine ⟨?_, HF4.out.alloc _⟩
  rw [HE.out]
  rfl

end Go.Proofs.YtjkhcfdflcndkaaGreat.D

/-
  The document's pager: number, Sector; what it is in memory; is, Read, Free, Drop. No condition beyond the sizes that are named.
-/
namespace Go.Proofs.YtjkhcfdflcndkaaGreat.D
open Go.RowKit Go.Maps Go.Shelf
set_option linter.unusedVariables false
set_option linter.unusedSimpArgs false

def numBad (l : List UInt8) (k : Nat) : Bool := (List.range k).any (fun j => decide (4503599627370496 < val (l.take j)))
def numP (l : List UInt8) : Int := if numBad l l.length then -1 else (val l : Int)
theorem numBad_succ (l : List UInt8) (k : Nat) : numBad l (k + 1) = (numBad l k || decide (4503599627370496 < val (l.take k))) := by simp [numBad, List.range_succ]
theorem numBad_of {l : List UInt8} {j k : Nat} (hj : j < k) (h : 4503599627370496 < val (l.take j)) : numBad l k = true := by
  unfold numBad
  rw [List.any_eq_true]
  exact ⟨j, List.mem_range.2 hj, by simpa using h⟩
theorem val_mono (l : List UInt8) : ∀ d j, j + d ≤ l.length → val (l.take j) ≤ val (l.take (j + d))
  | 0, j, _ => Nat.le_refl _
  | d + 1, j, h => by
    have := val_mono l d j (by omega)
    have h2 := val_take l (j + d) (by omega)
    rw [← Nat.add_assoc, h2]
    omega
theorem val_pre {l : List UInt8} {j : Nat} (h : j < l.length) : val (l.take j) * 256 ≤ val l := by
  have h1 := val_take l j h
  have h2 := val_mono l (l.length - (j + 1)) (j + 1) (by omega)
  rw [show j + 1 + (l.length - (j + 1)) = l.length by omega, List.take_length] at h2
  omega
/-- The number, where it is not too great; else one that is none. -/
theorem num_cases (l : List UInt8) : (numP l = (val l : Int)) ∨ (numP l = -1 ∧ 1152921504606846976 < val l) := by
  unfold numP
  cases h : numBad l l.length with
  | false => exact Or.inl rfl
  | true =>
    right
    refine ⟨rfl, ?_⟩
    unfold numBad at h
    rw [List.any_eq_true] at h
    obtain ⟨j, hj, hb⟩ := h
    have := val_pre (List.mem_range.1 hj)
    have hb : 4503599627370496 < val (l.take j) := by simpa using hb
    omega

set_option maxHeartbeats 4000000 in
set_option maxRecDepth 100000 in
theorem rnumber_c (w : World) (l : List UInt8) (hl : l.length ≤ 8) :
    Calls Tryz.prog 48 #[.string (bs l)] w fun e w' => e = .returned (.int .i64 (numP l)) ∧ w' = w := by
  go_enter Tryz.func48, Tryz.ntmps48
  go_wp2_with fail
  go_loop [3, 4] (fun v v2 => ∃ k : Nat, v2 = .int .i64 k ∧ k ≤ l.length ∧ v = .int .i64 (val (l.take k)) ∧ Hid (numBad l k = false)) (fun _ v => l.length - (intOf v).toNat)
  case atStart => exact ⟨0, rfl, by omega, rfl, hid rfl⟩
  case round =>
    obtain ⟨k, rfl, hk, rfl, HB⟩ := hrel
    by_cases hend : k = l.length
    · have HE := hid (show numP l = (val l : Int) by unfold numP; rw [← hend, HB.out]; rfl)
      have HT := hid (show val (l.take k) = val l by rw [hend, List.take_length])
      obtain ⟨V, hV⟩ : ∃ V : Int, V = (val (l.take k) : Int) := ⟨_, rfl⟩
      rw [← hV]
      have HV := hid hV
      subst hend
      clear hV
      go_wp2_with fail
      go_ret
      exact ⟨by rw [HE.out, HV.out, HT.out]; rfl, rfl⟩
    · have hk' : k < l.length := by omega
      obtain ⟨V, hV⟩ : ∃ V : Int, V = (val (l.take k) : Int) := ⟨_, rfl⟩
      rw [← hV]
      have hV0 : 0 ≤ V := by omega
      by_cases hbig : 4503599627370496 < V
      · have d : decide (4503599627370496 < V) = true := decide_eq_true hbig
        have HE := hid (show numP l = -1 by unfold numP; rw [numBad_of hk' (by omega)]; rfl)
        clear hbig hV hend
        go_wp2_with fail
        go_ret
        exact ⟨by rw [HE.out]; rfl, rfl⟩
      · have d : decide (4503599627370496 < V) = false := decide_eq_false hbig
        have HB2 := hid (show numBad l (k + 1) = false by rw [numBad_succ, HB.out]; simp; omega)
        have hV1 : V ≤ 4503599627370496 := by omega
        have hz : (bs l).size = l.length := by simp [bs, ByteArray.size]
        have hat := at_bs l k (by omega)
        obtain ⟨c, hc⟩ : ∃ c, c = l.getD k 0 := ⟨_, rfl⟩
        have hcb := UInt8.toNat_lt c
        rw [← hc] at hat
        have HVT := hid (show ((val (l.take (k + 1)) : Nat) : Int) = 256 * V + (c.toNat : Int) by rw [val_take l k hk', ← hc]; omega)
        have HC := hid hc
        clear hbig hV hc
        go_wp2_with fail
        refine ⟨⟨k + 1, by go_num, by omega, ?_, HB2⟩, by simp [intOf]; omega⟩
        rw [HVT.out]

/-- The document's Sector. -/
theorem rsec_c (w : World) (m b1 b2 : Nat) (s : St) (h : RA w m b1 b2 s) (hs : s.Ok) (i : Nat) (hi : i < s.n) :
    Calls Tryz.prog 47 #[.pointer (some ⟨m, 0, none⟩), .int .i64 i] w fun e w' => e = .returned (.string (bs (s.sec i))) ∧ w' = w := by
  have := rsector_c w m b1 b2 s.n s.armed _ _ s.kept s.dead h hs.n2 i hi
  rw [sec_uns hs i] at this
  exact this

/-! ### the document's pager in memory -/
def useOf (P : PSt) (i : Nat) : Int := (if P.live i then 1 else 0) + (if P.taken i then 2 else 0)
/-- A row of what pages are. -/
def UseAt (w : World) (ub n : Nat) (f : Nat → Int) : Prop := ∃ cur, w.heap[ub]? = some (.cells cur 3) ∧ ∀ i, i < n → cur[i]? = some (.int .i64 (f i))
structure RPAt (w : World) (q m ub : Nat) (P : PSt) : Prop where
  cells : ∃ cap, w.heap[q]? = some (.cells #[.pointer (some ⟨m, 0, none⟩), .int .i64 P.first, .int .i64 P.pages, .int .i64 P.root, .int .i64 P.from_, .int .i64 P.gen, .slice (some ⟨ub, 0, none⟩) P.pages cap, .bool P.dead] 40)
  use : UseAt w ub P.pages (useOf P)

theorem UseAt.keep {A : Nat → Prop} {w w' : World} {ub n : Nat} {f : Nat → Int} (h : UseAt w ub n f) (hf : Fr A w w') (hn : ¬ A ub) : UseAt w' ub n f := by
  obtain ⟨cur, h1, h2⟩ := h
  exact ⟨cur, hf.at h1 hn, h2⟩
theorem UseAt.cell {w : World} {ub n i : Nat} {f : Nat → Int} (h : UseAt w ub n f) (hi : i < n) : w.cell? ⟨ub, i, none⟩ = some (.int .i64 (f i)) := by
  obtain ⟨cur, h1, h2⟩ := h
  rw [cell_at h1]
  exact h2 i hi
theorem UseAt.congr {w : World} {ub n : Nat} {f g : Nat → Int} (h : UseAt w ub n f) (e : ∀ i, i < n → f i = g i) : UseAt w ub n g := by
  obtain ⟨cur, h1, h2⟩ := h
  exact ⟨cur, h1, fun i hi => by rw [← e i hi]; exact h2 i hi⟩
theorem UseAt.set {w : World} {ub n j : Nat} {f : Nat → Int} (h : UseAt w ub n f) (hj : j < n) (x : Int) : UseAt (w.setCell ⟨ub, j, none⟩ (.int .i64 x)) ub n (fun i => if i = j then x else f i) := by
  obtain ⟨cur, h1, h2⟩ := h
  refine ⟨_, set_at h1 j _, fun i hi => ?_⟩
  have hs : i < cur.size := (Array.getElem?_eq_some_iff.1 (h2 i hi)).1
  show (cur.setIfInBounds j _)[i]? = some (.int .i64 (if i = j then x else f i))
  by_cases e : i = j
  · subst e
    rw [if_pos rfl]
    simp [hs]
  · rw [if_neg e, Array.getElem?_setIfInBounds_ne (fun e2 => e e2.symm)]
    exact h2 i hi
theorem UseAt.frozen {w : World} {ub n : Nat} {f : Nat → Int} (h : UseAt w ub n f) (i : Nat) : w.frozen? ⟨ub, i, none⟩ = false := by
  obtain ⟨cur, h1, _⟩ := h
  exact frozen_at h1 i
theorem UseAt.lt {w : World} {ub n : Nat} {f : Nat → Int} (h : UseAt w ub n f) : ub < w.heap.size := by
  obtain ⟨cur, h1, _⟩ := h
  exact lt_of_at h1
theorem RPAt.stay {w w' : World} {q m ub : Nat} {P : PSt} (h : RPAt w q m ub P) (hf : Fr (fun _ => False) w w') : RPAt w' q m ub P := by
  obtain ⟨⟨cap, h1⟩, h2⟩ := h
  exact ⟨⟨cap, hf.at h1 (fun f => f)⟩, h2.keep hf (fun f => f)⟩

/-- A new row of noughts. -/
theorem mk_ints (n : Nat) (hn : n ≤ 4096) (w : World) :
    (Instr.makeSlice 38 (.int .i64 (n : Int)) (.int .i64 (n : Int))).run Tryz.prog w = .ok (.slice (some ⟨w.heap.size, 0, none⟩) n n) (w.alloc (.cells (Array.replicate n (.int .i64 0)) 3)) := by
  obtain ⟨i0, hi, hz0, hz1, hz2⟩ := info_parts (show (Tryz.prog.info? 3).map (fun i => (i.zero, i.size, i.bytes)) = some (some (.int .i64 0), 1, 8) by kernel_rfl)
  have hr := run_make (P := Tryz.prog) w 38 3 i0 (.int .i64 0) Tryz.underlying38 hi hz0 .i64 .i64 (n : Int) (n : Int) (by omega) (by omega) (by rw [hz2]; omega) (by omega)
  have e : madeCells (Value.int .i64 0).cells (((n : Int)).toNat * i0.size) = Array.replicate n (.int .i64 0) := by
    rw [hz1]
    apply Array.ext
    · simp [madeCells]
    · intro i h1 h2
      have e0 : i % 1 = 0 := by omega
      simp [madeCells, Value.cells, e0]
  rw [e] at hr
  simp only [Int.toNat_natCast] at hr
  exact hr
theorem zeros_use (w : World) (n : Nat) : UseAt (w.alloc (.cells (Array.replicate n (.int .i64 0)) 3)) w.heap.size n (fun _ => 0) :=
  ⟨_, (MapKept.heap_alloc w _).1, fun i hi => by simp [hi]⟩

theorem rpis_c (w : World) (q m ub : Nat) (P : PSt) (h : RPAt w q m ub P) (k : Int) :
    Calls Tryz.prog 64 #[.pointer (some ⟨q, 0, none⟩), .int .i64 k] w fun e w' => e = .returned (.bool (P.is k)) ∧ w' = w := by
  obtain ⟨⟨cap, h1⟩, _⟩ := h
  have c : w.cell? ⟨q, 2, none⟩ = some (.int .i64 P.pages) := cell_at h1 2
  obtain ⟨n, hn⟩ : ∃ n : Nat, n = P.pages := ⟨_, rfl⟩
  have HI := hid (show P.is k = (decide (0 ≤ k) && decide (k < (n : Int))) by rw [hn]; rfl)
  rw [HI.out]
  rw [← hn] at c
  clear h1 hn
  by_cases h0 : 0 ≤ k
  · by_cases h1 : k < n
    · have d0 : decide (0 ≤ k) = true := decide_eq_true h0
      have d1 : decide (k < (n : Int)) = true := decide_eq_true h1
      rw [d0, d1]
      go_enter Tryz.func64, Tryz.ntmps64
      go_wp2
      go_ret
      exact ⟨rfl, rfl⟩
    · have d0 : decide (0 ≤ k) = true := decide_eq_true h0
      have d1 : decide (k < (n : Int)) = false := decide_eq_false h1
      rw [d0, d1]
      go_enter Tryz.func64, Tryz.ntmps64
      go_wp2
      go_ret
      exact ⟨rfl, rfl⟩
  · have d0 : decide (0 ≤ k) = false := decide_eq_false h0
    rw [d0]
    go_enter Tryz.func64, Tryz.ntmps64
    go_wp2
    go_ret
    exact ⟨rfl, rfl⟩

end Go.Proofs.YtjkhcfdflcndkaaGreat.D
