/-
  A pager's Open. No condition beyond the sizes that are named.
-/
import Derived.Test.YtjkhcfdflcndkaaGreatKO11
import Derived.Outline
namespace Go.Proofs.YtjkhcfdflcndkaaGreat.D
open Go.RowKit Go.Maps Go.Shelf
set_option linter.unusedVariables false
set_option linter.unusedSimpArgs false

def better (h x : Nat × Int × Nat) : Nat × Int × Nat := if h.1 < x.1 then x else h
def pickTo (S : St) (c : Nat) : Nat → Nat × Int × Nat
  | 0 => (0, 0, 0)
  | i + 1 => better (pickTo S c i) (parseP c i (S.sec i))

theorem parse_zero {c a : Nat} {s : List UInt8} (h : (parseP c a s).1 = 0) : parseP c a s = (0, 0, 0) := by
  by_cases h2 : headOk c a s = true
  · exfalso
    have e : parseP c a s = (gOf s, (rOf s : Int) - 1, fOf s) := by unfold parseP; rw [if_pos h2]
    rw [e] at h
    unfold headOk at h2
    simp only [Bool.and_eq_true, decide_eq_true_eq] at h2
    have h : gOf s = 0 := h
    omega
  · exact parse_bad h2
theorem pickTo_two (S : St) (c : Nat) : pickTo S c 2 = pickP S c := by
  have e1 : pickTo S c 1 = parseP c 0 (S.sec 0) := by
    show better (0, 0, 0) (parseP c 0 (S.sec 0)) = _
    unfold better
    split
    · rfl
    · rename_i h
      rw [parse_zero (by omega)]
  show better (pickTo S c 1) (parseP c 1 (S.sec 1)) = _
  rw [e1]
  rfl
theorem parse_le {c a : Nat} {s : List UInt8} : (parseP c a s).1 ≤ 1152921504606846976 ∧ -1 ≤ (parseP c a s).2.1 ∧ (parseP c a s).2.1 ≤ c ∧ (parseP c a s).2.2 ≤ 1152921504606846976 := by
  by_cases h2 : headOk c a s = true
  · have e : parseP c a s = (gOf s, (rOf s : Int) - 1, fOf s) := by unfold parseP; rw [if_pos h2]
    rw [e]
    unfold headOk at h2
    simp only [Bool.and_eq_true, decide_eq_true_eq] at h2
    refine ⟨?_, ?_, ?_, ?_⟩ <;> simp only <;> omega
  · rw [parse_bad h2]
    refine ⟨?_, ?_, ?_, ?_⟩ <;> simp only <;> omega
theorem pick_le (S : St) (c : Nat) : ∀ i, (pickTo S c i).1 ≤ 1152921504606846976
  | 0 => by show 0 ≤ _; omega
  | i + 1 => by
    show (better _ _).1 ≤ _
    unfold better
    split
    · exact parse_le.1
    · exact pick_le S c i

theorem pchk_ok {S : St} {f c n : Int} (h : pchk S f c n = 0) : 2 ≤ f ∧ 1 ≤ c ∧ c ≤ 4096 ∧ f + 8 * c ≤ S.n ∧ 1 ≤ n ∧ n ≤ 1152921504606846976 ∧ S.dead = false := by
  unfold pchk at h
  split at h
  · cases h
  · rename_i hb
    split at h
    · cases h
    · rename_i hd
      exact ⟨by omega, by omega, by omega, by omega, by omega, by omega, by simpa using hd⟩

theorem read_two {S : St} (hs : S.Ok) (hd : S.dead = false) (h2 : 2 ≤ S.n) : S.read 0 2 = (S.sec 0 ++ S.sec 1, 0) := by
  unfold St.read
  rw [if_neg (by simp [hd]), if_neg (by omega)]
  have e : (2 : Int).toNat = 2 := rfl
  simp only [e, List.range_succ, List.range_zero, List.nil_append, List.flatMap_append, List.flatMap_cons, List.flatMap_nil, List.append_nil]
  rfl

def POpenPost (w : World) (g bm : Nat) (S : St) (f c : Int) (e : Ending) (w' : World) : Prop :=
  Fr (fun _ => False) w w' ∧ (∀ P, (openP S f c).1 = some P → ∃ p ml mt, e = .returned (.tuple #[.pointer (some ⟨p, 0, none⟩), .int .i64 0]) ∧ PD w' p g bm ml mt P S ∧ w.heap.size ≤ p ∧ w.heap.size ≤ ml ∧ w.heap.size ≤ mt) ∧
    ((openP S f c).1 = none → e = .returned (.tuple #[.pointer none, .int .i64 (openP S f c).2]))

def POpenC (w : World) (g bm : Nat) (S : St) (f c : Int) : Prop := Calls Tryz.prog 6 #[.pointer (some ⟨g, 0, none⟩), .int .i64 f, .int .i64 c] w (POpenPost w g bm S f c)

set_option maxRecDepth 100000 in
theorem popen_bad (w : World) (g bm : Nat) (S : St) (h : At w g bm S) (hs : S.Ok) (f c : Int) (hf : -9223372036854775808 ≤ f) (hf2 : f ≤ 9223372036854775807) (he : pchk S f c 1 ≠ 0) : POpenC w g bm S f c := by
  have HC := hid (pcheck_c w g bm S h hs f c 1 hf hf2)
  have HE := hid (show openP S f c = (none, pchk S f c 1) by unfold openP; rw [if_pos he])
  unfold POpenC
  clear h hs
  obtain ⟨C, hC⟩ : ∃ C, C = pchk S f c 1 := ⟨_, rfl⟩
  rw [← hC] at HC he HE
  have q : (C == 0) = false := by simpa using he
  have q2 : (C != 0) = true := by simpa using he
  clear hC he
  go_enter Tryz.func6, Tryz.ntmps6
  go_wp2_with fail
  refine HC.out.mono ?_
  rintro e w2 ⟨rfl, rfl⟩
  go_wp2_with fail
  go_ret2
  refine ⟨Fr.refl _ _, fun P hP => ?_, fun _ => ?_⟩
  · rw [HE.out] at hP; cases hP
  · rw [HE.out]; rfl

set_option maxHeartbeats 4000000 in
set_option maxRecDepth 100000 in
theorem popen_go (w : World) (g bm : Nat) (S : St) (h : At w g bm S) (hs : S.Ok) (f c : Int) (hf : -9223372036854775808 ≤ f) (hf2 : f ≤ 9223372036854775807) (he : pchk S f c 1 = 0) : POpenC w g bm S f c := by
  have HC := hid (pcheck_c w g bm S h hs f c 1 hf hf2)
  rw [he] at HC
  obtain ⟨p1, p2, p3, p4, _, _, p7⟩ := pchk_ok he
  obtain ⟨F, rfl⟩ : ∃ F : Nat, f = F := ⟨f.toNat, by omega⟩
  obtain ⟨N, rfl⟩ : ∃ N : Nat, c = N := ⟨c.toNat, by omega⟩
  have hN : N ≤ 4096 := by omega
  have hSn : 2 ≤ S.n := by omega
  have l0 : (S.sec 0).length = 64 := sec_length hs (by omega)
  have l1 : (S.sec 1).length = 64 := sec_length hs (by omega)
  have HE := hid (show openP S (F : Int) (N : Int) = if (pickTo S N 2).1 = 0 then (none, 190) else (some (PSt.of F N (pickTo S N 2)), 0) by
    unfold openP; rw [if_neg (by rw [he]; decide), pickTo_two]; simp only [Int.toNat_natCast])
  have HRD := hid (show Calls Tryz.prog 44 #[.pointer (some ⟨g, 0, none⟩), .int .i64 0, .int .i64 2] w fun e w' => e = .returned (.tuple #[.string (bs (S.sec 0 ++ S.sec 1)), .int .i64 0]) ∧ Fr (fun _ => False) w w' by
    have := read_c w g bm S h hs 0 2 (by decide) (by decide)
    unfold ReadC at this
    rw [read_two hs p7 hSn] at this
    exact this)
  obtain ⟨T, hT⟩ : ∃ T, T = S.sec 0 ++ S.sec 1 := ⟨_, rfl⟩
  rw [← hT] at HRD
  have hTl : T.length = 128 := by rw [hT, List.length_append]; omega
  have HSL := hid (fun (i : Nat) (hi : i < 2) (W : World) => show (Instr.slice 9 (.string (bs T)) (some (.int .i64 ((i : Int) * 64))) (some (.int .i64 (((i : Int) + 1) * 64))) none).run Tryz.prog W = .ok (.string (bs (S.sec i))) W by
    have := slice_bs (P := Tryz.prog) 9 Tryz.underlying9 W T (64 * i) (64 * i + 64) (by omega) (by omega) ((i : Int) * 64) (((i : Int) + 1) * 64) (by omega) (by omega)
    rw [this]
    congr 3
    rw [hT]
    have : i = 0 ∨ i = 1 := by omega
    rcases this with rfl | rfl
    · rw [show 64 * 0 + 64 - 64 * 0 = 64 by rfl, Nat.mul_zero, List.drop_zero, List.take_append_of_le_length (by omega), List.take_of_length_le (by omega)]
    · rw [show 64 * 1 + 64 - 64 * 1 = 64 by rfl, List.drop_append_of_le_length (by omega), List.drop_of_length_le (by omega), List.nil_append, List.take_of_length_le (by omega)])
  have HA := hid h
  have HPK := hid (pick_le S N)
  have HLN := hid (fun (i : Nat) (hi : i < 2) => (show (S.sec i).length = 64 from sec_length hs (by omega)))
  have hmm := @run_makeMap Tryz.prog
  clear h hs he p1 p2 p3 p4 p7 l0 l1 hT hSn
  unfold POpenC
  go_enter Tryz.func6, Tryz.ntmps6
  go_wp2_with fail
  refine HC.out.mono ?_
  rintro e w1 ⟨rfl, rfl⟩
  go_wp2_with fail
  refine HRD.out.mono ?_
  rintro e w2 ⟨rfl, hf2⟩
  have HF2 := hid hf2
  clear hf2
  go_wp2_with fail
  obtain ⟨B, hB⟩ : ∃ B, B = w2.heap.size := ⟨_, rfl⟩
  have hA1 : (w2.alloc (.map #[] 0)).heap[B]? = some (.map #[] 0) := by rw [hB]; exact (MapKept.heap_alloc w2 _).1
  have hz1 : (w2.alloc (.map #[] 0)).heap.size = B + 1 := by rw [hB]; simp
  have hA2 := (MapKept.heap_alloc (w2.alloc (.map #[] 0)) (.map #[] 0)).1
  have hz2 : ((w2.alloc (.map #[] 0)).alloc (.map #[] 0)).heap.size = B + 1 + 1 := by simp [hB]
  obtain ⟨cl, hcl⟩ : ∃ cl, cl = pcells g B (B + 1) (PSt.of F N (0, 0, 0)) := ⟨_, rfl⟩
  have hA3 := (MapKept.heap_alloc ((w2.alloc (.map #[] 0)).alloc (.map #[] 0)) (.cells cl 70)).1
  rw [hz1] at hA2
  rw [hz2] at hA3
  have hfa : Fr (fun _ => False) w2 (w2.alloc (.map #[] 0)) := (Fr.refl _ w2).alloc _
  have hfb : Fr (fun _ => False) (w2.alloc (.map #[] 0)) ((w2.alloc (.map #[] 0)).alloc (.map #[] 0)) := (Fr.refl _ _).alloc _
  have hfc : Fr (fun _ => False) ((w2.alloc (.map #[] 0)).alloc (.map #[] 0)) (((w2.alloc (.map #[] 0)).alloc (.map #[] 0)).alloc (.cells cl 70)) := (Fr.refl _ _).alloc _
  have hs1 : SetAt (w2.alloc (.map #[] 0)) B none_ := ⟨0, .map [], hB ▸ World.ownsMap_made _ _ _ _, fun i => by simp [Maps.has, none_], fun k hk => by simp [Maps.has] at hk⟩
  have hs2 : SetAt ((w2.alloc (.map #[] 0)).alloc (.map #[] 0)) (B + 1) none_ := ⟨0, .map [], hz1 ▸ World.ownsMap_made (w2.alloc (.map #[] 0)) _ _ _, fun i => by simp [Maps.has, none_], fun k hk => by simp [Maps.has] at hk⟩
  have hlow := HA.out.low
  have hsz2 := HF2.out.size
  have HPD := hid (show PD (((w2.alloc (.map #[] 0)).alloc (.map #[] 0)).alloc (.cells cl 70)) (B + 1 + 1) g bm B (B + 1) (PSt.of F N (pickTo S N 0)) S from
    ⟨⟨by rw [hA3, hcl]; rfl, (hs1.stay hfb).stay hfc, hs2.stay hfc, by omega⟩, HA.out.stay (((HF2.out.trans hfa (fun _ _ f => f)).trans hfb (fun _ _ f => f)).trans hfc (fun _ _ f => f)), by omega, by omega⟩)
  have HF3 := hid (((HF2.out.trans hfa (fun _ _ f => f)).trans hfb (fun _ _ f => f)).trans hfc (fun _ _ f => f))
  have HB := hid (show w1.heap.size ≤ B by omega)
  rw [hcl] at HPD HF3
  rw [← hB]
  clear hA1 hz1 hA2 hz2 hA3 hfa hfb hfc hs1 hs2 hlow hsz2 hB hcl HF2
  go_loopw [38] (fun v wr => ∃ i : Nat, v = .int .i64 i ∧ i ≤ 2 ∧ Hid (PD wr (B + 1 + 1) g bm B (B + 1) (PSt.of F N (pickTo S N i)) S) ∧ Hid (Fr (fun _ => False) w1 wr)) (fun v _ => 2 - (intOf v).toNat)
  case atStart => exact ⟨0, rfl, by omega, HPD, HF3⟩
  case round =>
    obtain ⟨i, rfl, hi, HP, HF⟩ := hrel
    have c2 : wr.cell? ⟨B + 1 + 1, 2, none⟩ = some (.int .i64 N) := cell_at HP.out.pa.1 2
    have hgl := HPK.out i
    obtain ⟨h, hh⟩ : ∃ h, h = pickTo S N i := ⟨_, rfl⟩
    have c5 : wr.cell? ⟨B + 1 + 1, 5, none⟩ = some (.int .i64 (h.1 : Nat)) := by rw [hh]; exact cell_at HP.out.pa.1 5
    rw [← hh] at HP hgl
    have HH := hid hh
    clear hh
    by_cases hend : i = 2
    · subst hend
      by_cases h0 : h.1 = 0
      · have HE2 := hid (show openP S (F : Int) (N : Int) = (none, 190) by rw [HE.out, ← HH.out, if_pos h0])
        rw [h0] at c5
        clear h0 hgl HE
        go_wp2_with fail
        go_ret2
        refine ⟨HF.out, fun P hP => ?_, fun _ => ?_⟩
        · rw [HE2.out] at hP; cases hP
        · rw [HE2.out]; rfl
      · have HE2 := hid (show openP S (F : Int) (N : Int) = (some (PSt.of F N h), 0) by rw [HE.out, ← HH.out, if_neg h0])
        have HG := hid hgl
        obtain ⟨G, hG⟩ : ∃ G : Int, G = (h.1 : Int) := ⟨_, rfl⟩
        have q : (G == 0) = false := by rw [Bool.eq_false_iff]; intro e; simp at e; omega
        rw [← hG] at c5
        clear h0 hgl HE hG
        go_wp2_with fail
        go_ret2
        refine ⟨HF.out, fun P hP => ?_, fun e => ?_⟩
        · rw [HE2.out] at hP
          cases hP
          have := HB.out
          exact ⟨B + 1 + 1, B, B + 1, rfl, HP.out, by omega, by omega, by omega⟩
        · rw [HE2.out] at e; cases e
    · have hi' : i < 2 := by omega
      obtain ⟨x, hx⟩ : ∃ x, x = parseP N i (S.sec i) := ⟨_, rfl⟩
      have HPC := hid (parse_c wr (B + 1 + 1) N i (S.sec i) (HLN.out i hi') hN hi' c2)
      unfold ParseC at HPC
      rw [← hx] at HPC
      have hxl := (parse_le (c := N) (a := i) (s := S.sec i))
      rw [← hx] at hxl
      have HX := hid (show pickTo S N (i + 1) = better h x by rw [HH.out, hx]; rfl)
      have hsl := HSL.out i hi' wr
      have y1 : IntKind.i64.wrap ((i : Int) * 64) = (i : Int) * 64 := by rw [IntKind.wrap_i64]; omega
      have y2 : IntKind.i64.wrap ((i : Int) + 1) = (i : Int) + 1 := by rw [IntKind.wrap_i64]; omega
      have y3 : IntKind.i64.wrap (((i : Int) + 1) * 64) = ((i : Int) + 1) * 64 := by rw [IntKind.wrap_i64]; omega
      have HGL := hid (And.intro hgl hxl)
      obtain ⟨G, hG⟩ : ∃ G : Int, G = (h.1 : Int) := ⟨_, rfl⟩
      obtain ⟨X, hX⟩ : ∃ X : Int, X = (x.1 : Int) := ⟨_, rfl⟩
      rw [← hX] at HPC
      clear hx hend c5 hgl hxl
      go_wp2_with fail
      refine HPC.out.mono ?_
      rintro e w5 ⟨rfl, hf5⟩
      have HP5 := hid (HP.out.stay hf5)
      have HF5 := hid (HF.out.trans hf5 (fun _ _ f => f))
      have c5 : w5.cell? ⟨B + 1 + 1, 5, none⟩ = some (.int .i64 G) := by rw [hG]; exact cell_at HP5.out.pa.1 5
      have c4 : w5.cell? ⟨B + 1 + 1, 4, none⟩ = some (.int .i64 h.2.2) := cell_at HP5.out.pa.1 4
      have c3 : w5.cell? ⟨B + 1 + 1, 3, none⟩ = some (.int .i64 h.2.1) := cell_at HP5.out.pa.1 3
      have f5 : w5.frozen? ⟨B + 1 + 1, 5, none⟩ = false := frozen_at HP5.out.pa.1 5
      have f4 : w5.frozen? ⟨B + 1 + 1, 4, none⟩ = false := frozen_at HP5.out.pa.1 4
      have f3 : w5.frozen? ⟨B + 1 + 1, 3, none⟩ = false := frozen_at HP5.out.pa.1 3
      by_cases hgt : G < X
      · have d : decide (G < X) = true := decide_eq_true hgt
        have HS := hid (show pickTo S N (i + 1) = x by rw [HX.out]; unfold better; rw [if_pos (by omega)])
        have HGX := hid (And.intro hG hX)
        clear hgt hf5 HX hG hX
        go_wp2_with fail
        refine ⟨⟨i + 1, by go_num, by omega, hid ?_, hid ?_⟩, by simp [intOf]; omega⟩
        · rw [HS.out]
          have hfs := ((Fr.refl (· = B + 1 + 1) w5).setCell ⟨B + 1 + 1, 5, none⟩ (fun _ => rfl) (.int .i64 X)).setCell ⟨B + 1 + 1, 3, none⟩ (fun _ => rfl) (.int .i64 x.2.1) |>.setCell ⟨B + 1 + 1, 4, none⟩ (fun _ => rfl) (.int .i64 (x.2.2 : Nat))
          have hne := HP5.out.ne
          have hpa := HP5.out.pa
          refine HP5.out.pturn ⟨?_, hpa.2.1.keep hfs (fun e => hne.2.2.1 e.symm), hpa.2.2.1.keep hfs (fun e => hne.2.2.2.1 e.symm), hpa.2.2.2⟩ (Or.inl rfl) (hfs.mono (fun i _ e => Or.inl e))
          rw [set_at (set_at (set_at hpa.1 5 _) 3 _) 4 _, HGX.out.2]
          rfl
        · refine HF5.out.trans (((Fr.refl (· = B + 1 + 1) w5).setCell ⟨B + 1 + 1, 5, none⟩ (fun _ => rfl) (.int .i64 X)).setCell ⟨B + 1 + 1, 3, none⟩ (fun _ => rfl) (.int .i64 x.2.1) |>.setCell ⟨B + 1 + 1, 4, none⟩ (fun _ => rfl) (.int .i64 (x.2.2 : Nat))) (fun j hj e => ?_)
          have := HB.out
          omega
      · have d : decide (G < X) = false := decide_eq_false hgt
        have HS := hid (show pickTo S N (i + 1) = h by rw [HX.out]; unfold better; rw [if_neg (by omega)])
        clear hgt hf5 HX hG hX
        go_wp2_with fail
        exact ⟨⟨i + 1, by go_num, by omega, hid (HS.out ▸ HP5.out), HF5⟩, by simp [intOf]; omega⟩

theorem popen_c (w : World) (g bm : Nat) (S : St) (h : At w g bm S) (hs : S.Ok) (f c : Int) (hf : -9223372036854775808 ≤ f) (hf2 : f ≤ 9223372036854775807) : POpenC w g bm S f c := by
  by_cases he : pchk S f c 1 = 0
  · exact popen_go w g bm S h hs f c hf hf2 he
  · exact popen_bad w g bm S h hs f c hf hf2 he

end Go.Proofs.YtjkhcfdflcndkaaGreat.D
