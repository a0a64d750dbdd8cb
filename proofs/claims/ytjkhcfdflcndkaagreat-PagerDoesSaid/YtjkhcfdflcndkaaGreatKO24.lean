/-
  The document's pager and its disk in memory; Write. No condition beyond the sizes that are named.
-/
import Derived.Test.YtjkhcfdflcndkaaGreatKO23
namespace Go.Proofs.YtjkhcfdflcndkaaGreat.D
open Go.RowKit Go.Maps Go.Shelf
set_option linter.unusedVariables false
set_option linter.unusedSimpArgs false

structure RPD (w : World) (q m ub b1 b2 : Nat) (P : PSt) (S : St) : Prop where
  pa : RPAt w q m ub P
  ra : RA w m b1 b2 S
def RPTurn (w w' : World) (q m ub b1 b2 : Nat) (P : PSt) (S : St) : Prop :=
  ∃ ub' b1' b2', RPD w' q m ub' b1' b2' P S ∧ (ub' = ub ∨ w.heap.size ≤ ub') ∧ (b1' = b1 ∨ w.heap.size ≤ b1') ∧ (b2' = b2 ∨ w.heap.size ≤ b2') ∧ Fr (fun i => i = q ∨ i = m ∨ i = b1 ∨ i = b2) w w'

section
variable {w w' : World} {q m ub b1 b2 : Nat} {P P' : PSt} {S S' : St}
theorem RPD.stay (h : RPD w q m ub b1 b2 P S) (hf : Fr (fun _ => False) w w') : RPD w' q m ub b1 b2 P S := ⟨h.pa.stay hf, RC.stay h.ra hf⟩
theorem RPD.apart (h : RPD w q m ub b1 b2 P S) : ¬ (q = m ∨ q = b1 ∨ q = b2) ∧ ¬ (ub = m ∨ ub = b1 ∨ ub = b2) ∧ ub ≠ q := by
  obtain ⟨⟨⟨cap, h1⟩, cur, h2, _⟩, h3⟩ := h
  exact ⟨rcells_apart h3 h1 (by decide) (by decide), rcells_apart h3 h2 (by decide) (by decide), other_cells h2 h1 (by decide)⟩
theorem RA.rp {T : Nat} (h : RA w m b1 b2 S) {c : Array Value} (hq : w.heap[T]? = some (.cells c 40)) (hf : Fr (· = T) w w') : RA w' m b1 b2 S := by
  obtain ⟨⟨c1, c2, kv, h1, hi⟩, ⟨x, h3, hx⟩, ⟨y, h4, hy⟩, h5⟩ := h
  exact ⟨⟨c1, c2, kv, hf.at h1 (fun e => other_cells hq h1 (by decide) e.symm), hi.keep hf (fun b cur hb e => other_cells hq hb (by decide) e.symm)⟩, ⟨x, hf.at h3 (fun e => other_cells hq h3 (by decide) e.symm), hx⟩, ⟨y, hf.at h4 (fun e => other_cells hq h4 (by decide) e.symm), hy⟩, h5⟩
theorem RPD.pturn (h : RPD w q m ub b1 b2 P S) (ht : RPT w w' q m ub P') : RPTurn w w' q m ub b1 b2 P' S := by
  obtain ⟨u, h1, h2, h3⟩ := ht
  obtain ⟨⟨cap, hq⟩, _⟩ := h.pa
  exact ⟨u, b1, b2, ⟨h1, RA.rp h.ra hq h3⟩, h2, Or.inl rfl, Or.inl rfl, h3.mono (fun _ _ e => Or.inl e)⟩
theorem RPD.dturn (h : RPD w q m ub b1 b2 P S) (ht : RTurn w m b1 b2 S' w') : RPTurn w w' q m ub b1 b2 P S' := by
  obtain ⟨⟨c1, c2, h1, h2, h3⟩, hf⟩ := ht
  have ha := h.apart
  obtain ⟨⟨cap, hq⟩, hu⟩ := h.pa
  exact ⟨ub, c1, c2, ⟨⟨⟨cap, hf.at hq ha.1⟩, hu.keep hf ha.2.1⟩, h1⟩, Or.inl rfl, h2, h3, hf.mono (fun _ _ e => Or.inr e)⟩
theorem RPTurn.self (h : RPD w q m ub b1 b2 P S) (hf : Fr (fun _ => False) w w') : RPTurn w w' q m ub b1 b2 P S := ⟨ub, b1, b2, h.stay hf, Or.inl rfl, Or.inl rfl, Or.inl rfl, fr_no hf⟩
theorem RPTurn.pre {w1 : World} (h : Fr (fun _ => False) w w1) (h2 : RPTurn w1 w' q m ub b1 b2 P S) : RPTurn w w' q m ub b1 b2 P S := by
  obtain ⟨u, c1, c2, k1, k2, k3, k4, k5⟩ := h2
  have := h.size
  exact ⟨u, c1, c2, k1, by omega, by omega, by omega, (fr_no h).trans k5 (fun _ _ e => e)⟩
theorem RPTurn.post {w1 : World} (h : RPTurn w w1 q m ub b1 b2 P S) (hf : Fr (fun _ => False) w1 w') : RPTurn w w' q m ub b1 b2 P S := by
  obtain ⟨u, c1, c2, k1, k2, k3, k4, k5⟩ := h
  exact ⟨u, c1, c2, k1.stay hf, k2, k3, k4, k5.trans hf (fun _ _ f => f.elim)⟩
theorem RPTurn.then {w1 : World} {ub1 c1 c2 : Nat} (hd : RPD w1 q m ub1 c1 c2 P' S') (hu : ub1 = ub ∨ w.heap.size ≤ ub1) (h1 : c1 = b1 ∨ w.heap.size ≤ c1) (h2 : c2 = b2 ∨ w.heap.size ≤ c2) (hf : Fr (fun i => i = q ∨ i = m ∨ i = b1 ∨ i = b2) w w1) (h : RPTurn w1 w' q m ub1 c1 c2 P S) : RPTurn w w' q m ub b1 b2 P S := by
  obtain ⟨u, d1, d2, k1, k2, k3, k4, k5⟩ := h
  have := hf.size
  exact ⟨u, d1, d2, k1, by omega, by omega, by omega, hf.trans k5 (fun i hi e => by omega)⟩
/-- Its mark that the power went. -/
theorem RPAt.die (h : RPAt w q m ub P) : RPT w (w.setCell ⟨q, 7, none⟩ (.bool true)) q m ub { P with dead := true } := by
  have hne := fun cur (hu : w.heap[ub]? = some (.cells cur 3)) => h.cells.elim fun cap hq => other_cells hu hq (by decide)
  obtain ⟨⟨cap, hq⟩, hu⟩ := h
  obtain ⟨cur, hc, _⟩ := id hu
  refine ⟨ub, ⟨⟨cap, ?_⟩, hu.keep (fr_set1 w q 7 _) (hne _ hc)⟩, Or.inl rfl, fr_set1 w q 7 _⟩
  rw [set_at hq 7]
  rfl
end

theorem write_two {S : St} {a : Int} {l : List UInt8} (hm : l.length % 64 = 0) (ha : 0 ≤ a) (hat : a + (l.length / 64 : Nat) ≤ S.n) : (S.write a l).2 = 0 ∨ (S.write a l).2 = 2 := by
  unfold St.write
  split
  · exact Or.inr rfl
  · rw [if_neg (by omega), if_neg (by omega)]
    unfold errOf
    split
    · exact Or.inr rfl
    · exact Or.inl rfl
theorem conv_drew (w : World) (n : Nat) :
    (convert 60 9 (.slice (some ⟨w.heap.size, 0, none⟩) n n)).run Tryz.prog (w.alloc (.cells (bytesOf (zero n)).toArray 5)).drew = .ok (.string (bs (zero n))) (w.alloc (.cells (bytesOf (zero n)).toArray 5)).drew := by
  have h := row_str (zero n) n w.heap.size (0, 0) (w.alloc (.cells (bytesOf (zero n)).toArray 5)).drew (show (w.alloc (.cells (bytesOf (zero n)).toArray 5)).drew.heap[w.heap.size]? = _ from (MapKept.heap_alloc w _).1)
  rwa [show (zero n).length = n by simp [zero]] at h
theorem told0 (P : PSt) : P.told 0 = P := by obtain ⟨a, b, c, d, e, f, g, h⟩ := P; simp [PSt.told]
theorem told2 (P : PSt) : P.told 2 = { P with dead := true } := by simp [PSt.told]
theorem useOf_two (P : PSt) (i : Nat) : (useOf P i < 2) = (P.taken i = false) := by
  unfold useOf
  cases P.live i <;> cases P.taken i <;> simp

set_option maxHeartbeats 8000000 in
set_option maxRecDepth 100000 in
theorem rpwrite_c (w : World) (q m ub b1 b2 : Nat) (P : PSt) (S : St) (h : RPD w q m ub b1 b2 P S) (hS : S.Ok) (hP : P.Ok S.n) (k : Int) (l : List UInt8) (hl2 : l.length ≤ 9223372036854775807) :
    Calls Tryz.prog 22 #[.pointer (some ⟨q, 0, none⟩), .int .i64 k, .string (bs l)] w fun e w' => e = .returned (.int .i64 (P.write S k l).2.2) ∧ RPTurn w w' q m ub b1 b2 (P.write S k l).1 (P.write S k l).2.1 := by
  have HD := hid h
  have HIS := hid (rpis_c w q m ub P h.pa k)
  obtain ⟨⟨⟨cap, h1⟩, hU⟩, hra⟩ := h
  have k7 : w.cell? ⟨q, 7, none⟩ = some (.bool P.dead) := cell_at h1 7
  have k6 : w.cell? ⟨q, 6, none⟩ = some (.slice (some ⟨ub, 0, none⟩) P.pages cap) := cell_at h1 6
  have hz : (bs l).size = l.length := by simp [bs, ByteArray.size]
  cases hd : P.dead with
  | true =>
    have HE := hid (show P.write S k l = (P, S, 2) by unfold PSt.write; rw [if_pos hd])
    rw [hd] at k7
    rw [HE.out]
    clear h1 hU hra hd hS hP
    go_enter Tryz.func22, Tryz.ntmps22
    go_wp2_with fail
    go_ret
    exact ⟨rfl, RPTurn.self HD.out (Fr.refl _ _)⟩
  | false =>
  rw [hd] at k7
  by_cases hl : 512 < l.length
  · have HE := hid (show P.write S k l = (P, S, 193) by unfold PSt.write; rw [if_neg (by simp [hd]), if_pos hl])
    rw [HE.out]
    clear h1 hU hra hd hS hP
    go_enter Tryz.func22, Tryz.ntmps22
    go_wp2_with fail
    go_ret
    exact ⟨rfl, RPTurn.self HD.out (Fr.refl _ _)⟩
  have hll : l.length ≤ 512 := by omega
  cases hi : P.is k with
  | false =>
    have ht : P.taken k = false := by
      cases e : P.taken k with
      | false => rfl
      | true =>
        have := hP.tk k e
        unfold PSt.is at hi
        simp at hi
        omega
    have HE := hid (show P.write S k l = (P, S, 191) by unfold PSt.write; rw [if_neg (by simp [hd]), if_neg hl, if_pos ht])
    rw [HE.out]
    rw [hi] at HIS
    clear h1 hU hra hd hS hP hi ht hl
    go_enter Tryz.func22, Tryz.ntmps22
    go_wp2_with fail
    refine HIS.out.mono ?_
    rintro e w2 ⟨rfl, rfl⟩
    go_wp2_with fail
    go_ret
    exact ⟨rfl, RPTurn.self HD.out (Fr.refl _ _)⟩
  | true =>
  have hkr : 0 ≤ k ∧ k < P.pages := by unfold PSt.is at hi; simpa using hi
  obtain ⟨K, rfl⟩ : ∃ K : Nat, k = K := ⟨k.toNat, by omega⟩
  rw [hi] at HIS
  have cu := hU.cell (i := K) (by omega)
  have hu2 := useOf_two P K
  have hvv := useOf_vals P K
  obtain ⟨u, hu⟩ : ∃ u, u = useOf P K := ⟨_, rfl⟩
  rw [← hu] at cu hu2 hvv
  obtain ⟨n, hn⟩ : ∃ n, n = P.pages := ⟨_, rfl⟩
  rw [← hn] at k6
  have hKn : K < n := by omega
  have hnn : n ≤ 4096 := by have := hP.p2; omega
  cases ht : P.taken (K : Int) with
  | false =>
    have hlt : decide (u < 2) = true := by rw [ht] at hu2; exact decide_eq_true (by rw [hu2])
    have HE := hid (show P.write S K l = (P, S, 191) by unfold PSt.write; rw [if_neg (by simp [hd]), if_neg hl, if_pos ht])
    rw [HE.out]
    clear h1 hU hra hd hS hP hi ht hl hu2 hu hn hkr
    go_enter Tryz.func22, Tryz.ntmps22
    go_wp2_with fail
    refine HIS.out.mono ?_
    rintro e w2 ⟨rfl, rfl⟩
    go_wp2_with fail
    go_ret
    exact ⟨rfl, RPTurn.self HD.out (Fr.refl _ _)⟩
  | true =>
  have hlt : decide (u < 2) = false := by rw [ht] at hu2; exact decide_eq_false (by rw [hu2]; simp)
  have hf1 : P.first ≤ 4096 := by have := hP.area; have := hS.n2; omega
  have hlen : (l ++ zero (512 - l.length)).length = 512 := by simp [zero]; omega
  obtain ⟨R, hR⟩ : ∃ R, R = S.write ((P.first : Int) + 8 * (K : Int)) (l ++ zero (512 - l.length)) := ⟨_, rfl⟩
  have h2 : R.2 = 0 ∨ R.2 = 2 := by
    rw [hR]
    refine write_two (by rw [hlen]) (by omega) ?_
    rw [hlen]
    have := hP.area
    omega
  have HE := hid (show P.write S K l = (P.told R.2, R.1, R.2) by rw [hR]; unfold PSt.write; rw [if_neg (by simp [hd]), if_neg hl, if_neg (by simp [ht])]; rfl)
  have HWR := hid (fun (W : World) (hA : RA W m b1 b2 S) => show Calls Tryz.prog 55 #[.pointer (some ⟨m, 0, none⟩), .int .i64 ((P.first : Int) + 8 * (K : Int)), .string (bs (l ++ zero (512 - l.length)))] W fun e w' => e = .returned (.int .i64 R.2) ∧ RTurn W m b1 b2 R.1 w' by
    have := rwrite_c W m b1 b2 S hA hS ((P.first : Int) + 8 * (K : Int)) (by omega) (by omega) (l ++ zero (512 - l.length)) (by rw [hlen]; decide)
    unfold RWriteC at this
    rw [← hR] at this
    exact this)
  have k0 : w.drew.cell? ⟨q, 0, none⟩ = some (.pointer (some ⟨m, 0, none⟩)) := cell_at h1 0
  have k1 : w.drew.cell? ⟨q, 1, none⟩ = some (.int .i64 P.first) := cell_at h1 1
  obtain ⟨f, hf⟩ : ∃ f, f = P.first := ⟨_, rfl⟩
  rw [← hf] at HWR k1 hf1
  have HFF := hid hf
  have x1 : IntKind.i64.wrap (8 * (K : Int)) = 8 * (K : Int) := by rw [IntKind.wrap_i64]; omega
  have x2 : IntKind.i64.wrap ((f : Int) + 8 * (K : Int)) = (f : Int) + 8 * (K : Int) := by rw [IntKind.wrap_i64]; omega
  have x3 : IntKind.i64.wrap ((512 : Int) - l.length) = ((512 - l.length : Nat) : Int) := by rw [IntKind.wrap_i64]; omega
  obtain ⟨z, hzz⟩ : ∃ z, z = 512 - l.length := ⟨_, rfl⟩
  rw [← hzz] at x3 HWR
  have hmk := fun W : World => mkz z (by omega) W
  have hms := fun W : World => mks z W
  have hmt := fun W : World => conv_drew W z
  obtain ⟨Z, hZ⟩ : ∃ Z, Z = zero z := ⟨_, rfl⟩
  have lz : Z.length = z := by rw [hZ]; simp [zero]
  rw [← hZ] at HWR hmk hms hmt
  have cat : ¬ (9223372036854775807 < l.length + Z.length) := by omega
  have cat2 : l.length + Z.length ≤ 9223372036854775807 := by omega
  have hfa : Fr (fun _ => False) w (w.alloc (.cells (bytesOf Z).toArray 5)) := (Fr.refl _ w).alloc _
  have k0a : (w.alloc (.cells (bytesOf Z).toArray 5)).cell? ⟨q, 0, none⟩ = some (.pointer (some ⟨m, 0, none⟩)) := cells_stay2 hfa k0
  have k1a : (w.alloc (.cells (bytesOf Z).toArray 5)).cell? ⟨q, 1, none⟩ = some (.int .i64 f) := cells_stay2 hfa k1
  have k0b : (w.alloc (.cells (bytesOf Z).toArray 5)).drew.cell? ⟨q, 0, none⟩ = some (.pointer (some ⟨m, 0, none⟩)) := k0a
  have k1b : (w.alloc (.cells (bytesOf Z).toArray 5)).drew.cell? ⟨q, 1, none⟩ = some (.int .i64 f) := k1a
  obtain ⟨S', cd⟩ := R
  simp only at HWR h2 HE
  rw [HE.out]
  clear h1 hU hd hS hP hi ht hl hu2 hu hn hkr hR hf hlen hZ hra hzz hfa
  rcases h2 with rfl | rfl
  · go_enter Tryz.func22, Tryz.ntmps22
    go_wp2_with fail
    refine HIS.out.mono ?_
    rintro e w2 ⟨rfl, rfl⟩
    go_wp2_with fail
    go_region_with (first
        | (go_at_call 55; refine (HWR.out _ (RC.stay HD.out.ra (((Fr.refl _ w2).alloc (.cells (bytesOf Z).toArray 5)).drew))).mono ?_; rintro e w3 ⟨rfl, ht⟩; have HT := RPTurn.pre (((Fr.refl _ w2).alloc (.cells (bytesOf Z).toArray 5)).drew) (RPD.dturn (HD.out.stay (((Fr.refl _ w2).alloc _).drew)) ht); obtain ⟨ub', c1, c2, hd3, hu3, hc1, hc2, hf3⟩ := HT; obtain ⟨cap3, hq3⟩ := hd3.pa.cells; have y0 : w3.cell? ⟨q, 0, none⟩ = some (.pointer (some ⟨m, 0, none⟩)) := cell_at hq3 0; have y1 : w3.cell? ⟨q, 1, none⟩ = some (.int .i64 f) := HFF.out ▸ cell_at hq3 1))
    all_goals
      go_wp2_with fail
      go_ret
      exact ⟨rfl, (told0 P).symm ▸ ⟨ub', c1, c2, hd3, hu3, hc1, hc2, hf3⟩⟩
  · go_enter Tryz.func22, Tryz.ntmps22
    go_wp2_with fail
    refine HIS.out.mono ?_
    rintro e w2 ⟨rfl, rfl⟩
    go_wp2_with fail
    go_region_with (first
        | (go_at_call 55; refine (HWR.out _ (RC.stay HD.out.ra (((Fr.refl _ w2).alloc (.cells (bytesOf Z).toArray 5)).drew))).mono ?_; rintro e w3 ⟨rfl, ht⟩; have HT := RPTurn.pre (((Fr.refl _ w2).alloc (.cells (bytesOf Z).toArray 5)).drew) (RPD.dturn (HD.out.stay (((Fr.refl _ w2).alloc _).drew)) ht); obtain ⟨ub', c1, c2, hd3, hu3, hc1, hc2, hf3⟩ := HT; obtain ⟨cap3, hq3⟩ := hd3.pa.cells; have y0 : w3.cell? ⟨q, 0, none⟩ = some (.pointer (some ⟨m, 0, none⟩)) := cell_at hq3 0; have y1 : w3.cell? ⟨q, 1, none⟩ = some (.int .i64 f) := HFF.out ▸ cell_at hq3 1))
    all_goals
      have f7 : w3.frozen? ⟨q, 7, none⟩ = false := frozen_at hq3 7
      have d7 : w3.cell? ⟨q, 7, none⟩ = some (.bool P.dead) := cell_at hq3 7
      have HT := hid (RPTurn.then hd3 hu3 hc1 hc2 hf3 (RPD.pturn hd3 hd3.pa.die))
      clear hd3 hu3 hc1 hc2 hf3 hq3 y0 y1
      go_wp2_with fail
      go_ret
      exact ⟨rfl, (told2 P).symm ▸ HT.out⟩

end Go.Proofs.YtjkhcfdflcndkaaGreat.D

/-
  The document's pager: Commit. No condition beyond the sizes that are named.
-/
namespace Go.Proofs.YtjkhcfdflcndkaaGreat.D
open Go.RowKit Go.Maps Go.Shelf
set_option linter.unusedVariables false
set_option linter.unusedSimpArgs false

theorem rsync_two (s : St) : s.sync.2 = 0 ∨ s.sync.2 = 2 := by
  unfold St.sync
  split
  · exact Or.inr rfl
  split
  · exact Or.inr rfl
  · exact Or.inl rfl
theorem useOf_zero (P : PSt) (J : Nat) : (useOf P J == 0) = !P.used (J : Int) := by
  unfold useOf PSt.used
  cases P.live J <;> cases P.taken J <;> simp

def RCommitC (w : World) (q m ub b1 b2 : Nat) (P : PSt) (S : St) (root fr : Int) (v : Value) (l : List Int) : Prop :=
  Calls Tryz.prog 28 #[.pointer (some ⟨q, 0, none⟩), .int .i64 root, .int .i64 fr, v] w fun e w' => e = .returned (.int .i64 (P.commit S root fr l).2.2) ∧ RPTurn w w' q m ub b1 b2 (P.commit S root fr l).1 (P.commit S root fr l).2.1

/-- The state behind a commit that counts. -/
def PSt.done (P : PSt) (root fr : Int) (l : List Int) : PSt := { P with gen := P.gen + 1, root := root, from_ := fr.toNat, live := fun i => l.contains i, taken := fun _ => false }

theorem take_contains (l : List Int) (i : Nat) (hi : i < l.length) (r : Int) : (l.take (i + 1)).contains r = ((l.take i).contains r || l.getD i 0 == r) := by
  rw [take_snoc l i hi, List.contains_eq_any_beq, List.contains_eq_any_beq, List.any_append]
  simp [Bool.beq_comm]

/-- Is the root there, among the first of these? -/
def thereTo (T0 : Bool) (l : List Int) (root : Int) (i : Nat) : Bool := T0 || (l.take i).contains root
/-- May the first of these be live? -/
def okTo (P : PSt) (l : List Int) (i : Nat) : Prop := ∀ b, b < i → (P.is (l.getD b 0) && P.used (l.getD b 0)) = true

set_option maxHeartbeats 16000000 in
set_option maxRecDepth 100000 in
theorem rpcommit_pre (w : World) (q m ub b1 b2 : Nat) (P : PSt) (S : St) (h : RPD w q m ub b1 b2 P S) (hS : S.Ok) (hP : P.Ok S.n) (root fr : Int) (v : Value) (l : List Int) (hv : IntsV w v l) (hno : P.dead = true ∨ P.mayCommit root l = false ∨ fr < 1 ∨ 1152921504606846976 < fr ∨ 1152921504606846976 ≤ P.gen) :
    RCommitC w q m ub b1 b2 P S root fr v l := by
  have HD := hid h
  have HV := hid hv
  have HNO := hid hno
  have HUN := hid (fun W (hf : Fr (fun _ => False) w W) => runlike_c W _ l (hv.stay hf))
  have HIS := hid (fun W (hf : Fr (fun _ => False) w W) k => rpis_c W q m ub P (h.pa.stay hf) k)
  obtain ⟨a, cap, rfl, hlen, _⟩ := hv
  obtain ⟨⟨⟨cap6, h1⟩, hU⟩, hra⟩ := h
  have H1 := hid h1
  have HU := hid hU
  have k7 : w.cell? ⟨q, 7, none⟩ = some (.bool P.dead) := cell_at h1 7
  have hg2 := hP.g2
  unfold RCommitC
  cases hd : P.dead with
  | true =>
    have HE := hid (show P.commit S root fr l = (P, S, 2) by unfold PSt.commit; rw [if_pos hd])
    rw [hd] at k7
    rw [HE.out]
    clear h1 hU hra hd hS hP hno
    go_enter Tryz.func28, Tryz.ntmps28
    go_wp2_with fail
    go_ret
    exact ⟨rfl, RPTurn.self HD.out (Fr.refl _ _)⟩
  | false =>
    rw [hd] at k7
    have HDD := hid hd
    obtain ⟨n, hn⟩ : ∃ n, n = l.length := ⟨_, rfl⟩
    rw [← hn] at hlen HV HUN ⊢
    have HN := hid hn
    obtain ⟨G, hG⟩ : ∃ G, G = P.gen := ⟨_, rfl⟩
    have HG := hid hG
    rw [← hG] at hg2
    have HP := hid hP
    have HSELF := hid (fun W (hf : Fr (fun _ => False) w W) => RPTurn.self HD.out hf)
    obtain ⟨T0, hT0⟩ : ∃ T0, T0 = decide (root = -1) := ⟨_, rfl⟩
    have dr : (root == -1) = T0 := by rw [hT0]; by_cases e : root = -1 <;> simp [e]
    have HT0 := hid hT0
    have HNOMAY := hid (fun (e : P.mayCommit root l = false) => show P.commit S root fr l = (P, S, 191) by unfold PSt.commit; rw [if_neg (by simp [HDD.out]), if_pos e])
    clear h1 hU hra hd hS hP hno hn hG hT0
    go_enter Tryz.func28, Tryz.ntmps28
    go_wp2_with fail
    go_loopw [9, 10] (fun v9 v10 wr => ∃ i : Nat, v9 = .bool (thereTo T0 l root i) ∧ v10 = .int .i64 i ∧ i ≤ n ∧ Hid (okTo P l i) ∧ Hid (Fr (fun _ => False) w wr)) (fun _ v _ => n - (intOf v).toNat)
    case atStart => exact ⟨0, by simp [thereTo], rfl, by omega, hid (fun b hb => absurd hb (by omega)), hid (Fr.refl _ _)⟩
    case round =>
      obtain ⟨i, rfl, rfl, hi, HA, HF⟩ := hrel
      obtain ⟨T, hT⟩ : ∃ T, T = thereTo T0 l root i := ⟨_, rfl⟩
      rw [← hT]
      have HT := hid hT
      clear hT
      by_cases hend : i = n
      · have HAL := hid (all_take (fun i => P.is i && P.used i) l (fun b hb => HA.out b (by have := HN.out; omega)))
        have HTT := hid (show T = (decide (root = -1) || l.contains root) by rw [HT.out, thereTo, HT0.out, hend, HN.out, List.take_length])
        subst hend
        clear HIS
        cases T with
        | false =>
          have HZ := hid (HNOMAY.out (by unfold PSt.mayCommit; rw [← HTT.out, Bool.and_false]))
          go_wp2_with fail
          go_ret
          rw [HZ.out]
          exact ⟨rfl, HSELF.out _ HF.out⟩
        | true =>
          go_wp2_with fail
          refine (HUN.out _ HF.out).mono ?_
          rintro e w2 ⟨rfl, hf2⟩
          have HF2 := hid (HF.out.trans hf2 (fun _ _ f => f))
          clear hf2 HUN
          obtain ⟨R, hR⟩ : ∃ R, R = decide l.Nodup := ⟨_, rfl⟩
          rw [← hR]
          have HR := hid hR
          clear hR
          cases R with
          | false =>
            have HZ := hid (HNOMAY.out (by unfold PSt.mayCommit setOk; rw [← HR.out, Bool.and_false]; rfl))
            go_wp2_with fail
            go_ret
            rw [HZ.out]
            exact ⟨rfl, HSELF.out _ HF2.out⟩
          | true =>
            have HMAY := hid (show P.mayCommit root l = true by unfold PSt.mayCommit setOk; rw [← HTT.out, ← HR.out, HAL.out]; rfl)
            have hno := HNO.out
            rw [HDD.out, HMAY.out, ← HG.out] at hno
            simp only [Bool.false_eq_true, Bool.true_eq_false, false_or] at hno
            have HZ := hid (show P.commit S root fr l = (P, S, 190) by unfold PSt.commit; rw [if_neg (by simp [HDD.out]), if_neg (by simp [HMAY.out]), if_pos (HG.out ▸ hno)])
            have k5 : w2.cell? ⟨q, 5, none⟩ = some (.int .i64 G) := by rw [cell_at (HF2.out.at H1.out (fun f => f)) 5, HG.out]; rfl
            by_cases f1 : fr < 1
            · have d1 : decide (fr < 1) = true := decide_eq_true f1
              clear hno f1
              go_wp2_with fail
              go_ret
              rw [HZ.out]
              exact ⟨rfl, HSELF.out _ HF2.out⟩
            · have d1 : decide (fr < 1) = false := decide_eq_false f1
              by_cases f2 : 1152921504606846976 < fr
              · have d2 : decide (1152921504606846976 < fr) = true := decide_eq_true f2
                clear hno f1 f2
                go_wp2_with fail
                go_ret
                rw [HZ.out]
                exact ⟨rfl, HSELF.out _ HF2.out⟩
              · have d2 : decide (1152921504606846976 < fr) = false := decide_eq_false f2
                have d3 : ((G : Int) == 1152921504606846976) = true := by rw [beq_iff_eq]; omega
                clear hno f1 f2 hg2
                go_wp2_with fail
                go_ret
                rw [HZ.out]
                exact ⟨rfl, HSELF.out _ HF2.out⟩
      · have hi' : i < n := by omega
        have hil : i < l.length := by have := HN.out; omega
        obtain ⟨b, o, rfl, hcell⟩ := HV.out.some (by omega)
        have ci := cells_stay2 HF.out (hcell i hi')
        obtain ⟨y, hy⟩ : ∃ y, y = l.getD i 0 := ⟨_, rfl⟩
        rw [← hy] at ci
        have HY := hid hy
        have HI := hid (fun q' => HIS.out (wr.drewN q') (fr_dn HF.out) y)
        have c6 : wr.cell? ⟨q, 6, none⟩ = some (.slice (some ⟨ub, 0, none⟩) P.pages cap6) := cell_at (HF.out.at H1.out (fun f => f)) 6
        obtain ⟨pg, hpg⟩ : ∃ pg, pg = P.pages := ⟨_, rfl⟩
        rw [← hpg] at c6
        clear hcell hend hy HIS HUN
        cases hb : P.is y with
        | false =>
          rw [hb] at HI
          have HZ := hid (HNOMAY.out (by unfold PSt.mayCommit setOk; rw [all_not (fun i => P.is i && P.used i) l i hil (by show (P.is _ && P.used _) = false; rw [← HY.out, hb]; rfl)]; rfl))
          clear hb
          go_wp2_with fail
          go_quiet (first | (go_at_call 64; exact Calls.quiet_of_same (HI.out _)))
          go_wp2_with fail
          go_ret
          rw [HZ.out]
          exact ⟨rfl, HSELF.out _ (fr_dn HF.out)⟩
        | true =>
          have hyr : 0 ≤ y ∧ y < pg := by unfold PSt.is at hb; rw [← hpg] at hb; simpa using hb
          obtain ⟨J, rfl⟩ : ∃ J : Nat, y = J := ⟨y.toNat, by omega⟩
          have hJ : J < pg := by omega
          have hpg2 : pg ≤ 4096 := by have := HP.out.p2; omega
          have cu := (HU.out.keep HF.out (fun f => f)).cell (i := J) (by omega)
          have hz := useOf_zero P J
          have hvv := useOf_vals P J
          obtain ⟨u, hu⟩ : ∃ u, u = useOf P J := ⟨_, rfl⟩
          rw [← hu] at cu hz hvv
          rw [hb] at HI
          have HB := hid hb
          clear hu hpg hb
          cases hb2 : P.used (J : Int) with
          | false =>
            rw [hb2] at hz
            have hz : (u == 0) = true := hz
            have HZ := hid (HNOMAY.out (by unfold PSt.mayCommit setOk; rw [all_not (fun i => P.is i && P.used i) l i hil (by show (P.is _ && P.used _) = false; rw [← HY.out, hb2, Bool.and_false])]; rfl))
            clear hb2
            go_wp2_with fail
            go_quiet (first | (go_at_call 64; exact Calls.quiet_of_same (HI.out _)))
            go_wp2_with fail
            go_ret
            rw [HZ.out]
            exact ⟨rfl, HSELF.out _ (fr_dn HF.out)⟩
          | true =>
            rw [hb2] at hz
            have hz : (u == 0) = false := hz
            have HA2 := hid (show okTo P l (i + 1) by
              intro b hb'
              by_cases e : b = i
              · rw [e, ← HY.out, HB.out, hb2]; rfl
              · exact HA.out b (by omega))
            have HT2 := hid (show thereTo T0 l root (i + 1) = (T || ((J : Int) == root)) by rw [HT.out, thereTo, thereTo, take_contains l i hil, HY.out, Bool.or_assoc])
            obtain ⟨E, hE⟩ : ∃ E, ((J : Int) == root) = E := ⟨_, rfl⟩
            rw [hE] at HT2
            clear hb2
            go_wp2_with fail
            go_quiet (first | (go_at_call 64; exact Calls.quiet_of_same (HI.out _)))
            cases T with
            | true =>
              go_wp2_with fail
              exact ⟨⟨i + 1, by rw [HT2.out]; rfl, by go_num, by omega, HA2, hid (fr_dn HF.out)⟩, by simp [intOf]; omega⟩
            | false =>
              cases E <;>
              · go_wp2_with fail
                exact ⟨⟨i + 1, by rw [HT2.out]; rfl, by go_num, by omega, HA2, hid (fr_dn HF.out)⟩, by simp [intOf]; omega⟩

end Go.Proofs.YtjkhcfdflcndkaaGreat.D
