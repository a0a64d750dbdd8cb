/-
  An area that is read, and a log begun anew there: both. No condition.
-/
import Derived.Test.YthmnchemfigneaaGreatZ2
namespace Go.Proofs.YthmnchemfigneaaGreat.D
open Go.RowKit Go.Maps Go.Shelf
set_option linter.unusedVariables false
set_option linter.unusedSimpArgs false

/-- At a return of four results. -/
theorem res4 {fn : Func} {t u v x : Tmp} (h : fn.results = #[.tmp t, .tmp u, .tmp v, .tmp x]) (tmps : Array Value) (P : Program) (w : World) :
    (results fn tmps).run P w = .ok (.tuple #[tmps.getD t undef, tmps.getD u undef, tmps.getD v undef, tmps.getD x undef]) w := by simp [results, h]

theorem recsGo_len2 : ∀ (f : Nat) (t : List UInt8) (n : Nat), (recsGo f t n).length ≤ f
  | 0, _, _ => Nat.le_refl _
  | f + 1, t, n => by
    rw [recsGo]
    cases ahead t n with
    | none => simp
    | some r =>
      have := recsGo_len2 f (t.drop (64 * many r.length)) (n + 1)
      simp only [List.length_cons]
      omega
theorem read_len2 {s : St} (hs : s.Ok) (f c n : Int) (h : chk s f c n = 0) : (s.read f c).1.length ≤ 262144 := by
  obtain ⟨_, p1, p2, p3, p4, p5⟩ := LSt.begin_ok h
  unfold St.read
  split
  · simp
  split
  · simp
  · have := secs_length hs (a := f.toNat) (c := c.toNat) (by omega)
    have h2 := hs.n2
    show (secs s f.toNat c.toNat).length ≤ _
    omega
theorem walRead_len2 {s : St} (hs : s.Ok) (f c n : Int) : (walRead s f c n).1.length ≤ 262145 := by
  unfold walRead
  split
  · simp
  · rename_i h
    have h0 : chk s f c n = 0 := Decidable.byContradiction h
    split
    · simp
    · have h1 := read_len2 hs f c n h0
      have h2 := recsGo_len2 ((s.read f c).1.length + 1) (s.read f c).1 n.toNat
      show (recs (s.read f c).1 n.toNat).length ≤ _
      unfold recs
      omega


def AgainC (w : World) (g m : Nat) (S : St) (f c : Int) (e : Ending) (w' : World) : Prop :=
  Fr (fun _ => False) w w' ∧ ((∃ n : Int, e = .returned (.tuple #[.pointer none, .pointer none, .int .i64 n, .bool true])) ∨
    ∃ (k1 k2 : Nat) (n : Int), e = .returned (.tuple #[.pointer (some ⟨k1, 0, none⟩), .pointer (some ⟨k2, 0, none⟩), .int .i64 n, .bool true]) ∧ chk S f c n = 0 ∧ LogAt w' k1 g (LSt.begin f c n) ∧ RLogAt w' k2 m (LSt.begin f c n) ∧ w.heap.size ≤ k1 ∧ w.heap.size ≤ k2)

set_option maxHeartbeats 8000000 in
set_option maxRecDepth 100000 in
theorem again_c (w : World) (g bm m b1 b2 : Nat) (S : St) (hA : At w g bm S) (hR : RA w m b1 b2 S) (hs : S.Ok) (im : List UInt8) (f c n0 : Int) (u : Value) (kd nn : Int) (tx : List UInt8) (kv : Value) (fm : Int) (hf : -9223372036854775808 ≤ f) (hf2 : f ≤ 9223372036854775807) :
    Calls Tryz.prog 18 #[.pointer (some ⟨g, 0, none⟩), .pointer (some ⟨m, 0, none⟩), .agg #[.string (bs im), .int .i64 f, .int .i64 c, .int .i64 n0, u], .agg #[.int .i64 kd, .int .i64 nn, .string (bs tx), kv], .int .i64 fm] w (AgainC w g m S f c) := by
  have hf0 : Fr (fun _ => False) w (w.alloc (.cells #[.string (bs im), .int .i64 f, .int .i64 c, .int .i64 n0, u] 24)) := (Fr.refl _ w).alloc _
  have hf1 : Fr (fun _ => False) w ((w.alloc (.cells #[.string (bs im), .int .i64 f, .int .i64 c, .int .i64 n0, u] 24)).alloc (.cells #[.int .i64 kd, .int .i64 nn, .string (bs tx), kv] 39)) := hf0.alloc _
  have hn0 := (MapKept.heap_alloc w (.cells #[.string (bs im), .int .i64 f, .int .i64 c, .int .i64 n0, u] 24)).1
  have hn1 := (MapKept.heap_alloc (w.alloc (.cells #[.string (bs im), .int .i64 f, .int .i64 c, .int .i64 n0, u] 24)) (.cells #[.int .i64 kd, .int .i64 nn, .string (bs tx), kv] 39)).1
  have hsz : (w.alloc (.cells #[.string (bs im), .int .i64 f, .int .i64 c, .int .i64 n0, u] 24)).heap.size = w.heap.size + 1 := by simp
  rw [hsz] at hn1
  have hn0' := ((Fr.refl (fun _ => False) (w.alloc (.cells #[.string (bs im), .int .i64 f, .int .i64 c, .int .i64 n0, u] 24))).alloc (.cells #[.int .i64 kd, .int .i64 nn, .string (bs tx), kv] 39)).at hn0 (fun f => f)
  obtain ⟨w2, hw2⟩ : ∃ w2, w2 = (w.alloc (.cells #[.string (bs im), .int .i64 f, .int .i64 c, .int .i64 n0, u] 24)).alloc (.cells #[.int .i64 kd, .int .i64 nn, .string (bs tx), kv] 39) := ⟨_, rfl⟩
  rw [← hw2] at hf1 hn1 hn0'
  have HF2 := hid hf1
  have HX := hid hn0'
  have HY := hid hn1
  have HA2 := hid (hA.stay hf1)
  have HR2 := hid (RC.stay hR hf1 : RA w2 m b1 b2 S)
  have HS := hid hs
  obtain ⟨R, hRR⟩ : ∃ R, R = walRead S f c fm := ⟨_, rfl⟩
  have H1 := hid (fun W (h : At W g bm S) => show Calls Tryz.prog 34 #[.pointer (some ⟨g, 0, none⟩), .int .i64 f, .int .i64 c, .int .i64 fm] W fun e w' => ∃ v, e = .returned (.tuple #[v, .int .i64 R.2.1, .int .i64 R.2.2]) ∧ Texts w' W.heap.size v R.1 ∧ Fr (fun _ => False) W w' from
    hRR ▸ wread_c W g bm S h HS.out f c fm hf hf2)
  have H2 := hid (fun W (h : RA W m b1 b2 S) => show Calls Tryz.prog 47 #[.pointer (some ⟨m, 0, none⟩), .int .i64 f, .int .i64 c, .int .i64 fm] W fun e w' => ∃ v, e = .returned (.tuple #[v, .int .i64 R.2.1, .int .i64 R.2.2]) ∧ Texts w' W.heap.size v R.1 ∧ Fr (fun _ => False) W w' from
    hRR ▸ vread_c W m b1 b2 S h HS.out f c fm hf hf2)
  have hRl : R.1.length ≤ 262145 := hRR ▸ walRead_len2 hs f c fm
  have HB := hid (fun n : Int => fun (he : chk S f c n = 0) W (h : At W g bm S) => begin_c W g bm S h HS.out f c n hf hf2 he)
  have HB' := hid (fun n : Int => fun (he : chk S f c n = 0) W (h : RA W m b1 b2 S) => rbegin_c W m b1 b2 S h HS.out f c n hf hf2 he)
  have HN := hid (fun n : Int => fun (he : chk S f c n ≠ 0) W (h : At W g bm S) => begin_bad W g bm S h HS.out f c n hf hf2 he)
  have HN' := hid (fun n : Int => fun (he : chk S f c n ≠ 0) W (h : RA W m b1 b2 S) => rbegin_bad W m b1 b2 S h HS.out f c n hf hf2 he)
  have k1 : w2.cell? ⟨w.heap.size, 1, none⟩ = some (.int .i64 f) := cell_at HX.out 1
  have k2 : w2.cell? ⟨w.heap.size, 2, none⟩ = some (.int .i64 c) := cell_at HX.out 2
  have q1 : (R.2.2 == R.2.2) = true := by simp
  have q2 : (R.2.1 == R.2.1) = true := by simp
  clear hA hR hs hf0 hf1 hn0 hn1 hn0' hsz hRR
  go_enter Tryz.func18, Tryz.ntmps18
  go_wp2_with fail
  rw [← hw2]
  clear hw2
  refine (H1.out _ HA2.out).mono ?_
  rintro e w3 ⟨v3, rfl, ht3, hf3⟩
  have HT3 := hid (ht3.tv (by omega))
  have HF3 := hid (HF2.out.trans hf3 (fun _ _ f => f))
  have HX3 := hid (hf3.at HX.out (fun f => f))
  have HY3 := hid (hf3.at HY.out (fun f => f))
  have HA3 := hid (HA2.out.stay hf3)
  have HR3 := hid (RC.stay HR2.out hf3 : RA w3 m b1 b2 S)
  have k1 : w3.cell? ⟨w.heap.size, 1, none⟩ = some (.int .i64 f) := cell_at HX3.out 1
  have k2 : w3.cell? ⟨w.heap.size, 2, none⟩ = some (.int .i64 c) := cell_at HX3.out 2
  clear ht3 hf3
  go_wp2_with fail
  refine (H2.out _ HR3.out).mono ?_
  rintro e w4 ⟨v4, rfl, ht4, hf4⟩
  have HT4 := hid (ht4.tv (by omega))
  have HT3' := hid (HT3.out.stay hf4)
  have HF4 := hid (HF3.out.trans hf4 (fun _ _ f => f))
  have HX4 := hid (hf4.at HX3.out (fun f => f))
  have HY4 := hid (hf4.at HY3.out (fun f => f))
  have HA4 := hid (HA3.out.stay hf4)
  have HR4 := hid (RC.stay HR3.out hf4 : RA w4 m b1 b2 S)
  clear ht4 hf4 k1 k2
  have HST := hid (same_texts w4 v3 v4 R.1 R.1 HT3'.out HT4.out)
  have q3 : decide (R.1 = R.1) = true := by simp
  rw [q3] at HST
  clear q3
  go_wp2_with fail
  refine HST.out.mono ?_
  rintro e w5 ⟨rfl, hf5⟩
  have HF5 := hid (HF4.out.trans hf5 (fun _ _ f => f))
  have HX5 := hid (hf5.at HX4.out (fun f => f))
  have HY5 := hid (hf5.at HY4.out (fun f => f))
  have HA5 := hid (HA4.out.stay hf5)
  have HR5 := hid (RC.stay HR4.out hf5 : RA w5 m b1 b2 S)
  clear hf5
  obtain ⟨R1, R2, R3⟩ := R
  simp only at q1 q2 ⊢
  by_cases hz : R3 = 0
  case neg =>
    have q4 : (R3 == 0) = false := by simpa using hz
    have q5 : (R3 != 0) = true := by simpa using hz
    clear hz
    go_wp2_with fail
    (try simp only [Exit.inBlock, Exit.then]); refine bodyPost_ret (res4 rfl _ _ _) rfl ?_
    exact ⟨HF5.out, Or.inl ⟨_, rfl⟩⟩
  subst hz
  have k1 : w5.cell? ⟨w.heap.size, 1, none⟩ = some (.int .i64 f) := cell_at HX5.out 1
  have k2 : w5.cell? ⟨w.heap.size, 2, none⟩ = some (.int .i64 c) := cell_at HX5.out 2
  have o1 : w5.cell? ⟨w.heap.size + 1, 1, none⟩ = some (.int .i64 nn) := cell_at HY5.out 1
  obtain ⟨n, hn⟩ : ∃ n : Int, n = if 0 < nn then nn else R2 := ⟨_, rfl⟩
  by_cases hnn : 0 < nn
  · rw [if_pos hnn] at hn
    have d0 : decide (0 < nn) = true := decide_eq_true hnn
    subst hn
    by_cases he : chk S f c n = 0
    · have HB5 := hid (HB.out n he _ HA5.out)
      have HB6 := hid (fun W h => HB'.out n he W h)
      have HE := hid he
      clear he H1 H2 HB HB' HN HN'
      go_wp2_with fail
      refine HB5.out.mono ?_
      rintro e w6 ⟨j1, rfl, hl6, hk6, hf6⟩
      have HF6 := hid (HF5.out.trans hf6 (fun _ _ f => f))
      have HX6 := hid (hf6.at HX5.out (fun f => f))
      have HR6 := hid (RC.stay HR5.out hf6 : RA w6 m b1 b2 S)
      have HL6 := hid hl6
      have HK6 := hid (show w.heap.size ≤ j1 by have := HF5.out.size; omega)
      have k1 : w6.cell? ⟨w.heap.size, 1, none⟩ = some (.int .i64 f) := cell_at HX6.out 1
      have k2 : w6.cell? ⟨w.heap.size, 2, none⟩ = some (.int .i64 c) := cell_at HX6.out 2
      clear hl6 hk6 hf6
      go_wp2_with fail
      refine (HB6.out _ HR6.out).mono ?_
      rintro e w7 ⟨j2, rfl, hl7, hk7, hf7⟩
      have HF7 := hid (HF6.out.trans hf7 (fun _ _ f => f))
      have HL7 := hid (HL6.out.stay hf7)
      have HM7 := hid hl7
      have HK7 := hid (show w.heap.size ≤ j2 by have := HF6.out.size; omega)
      clear hl7 hk7 hf7 k1 k2
      go_wp2_with fail
      (try simp only [Exit.inBlock, Exit.then]); refine bodyPost_ret (res4 rfl _ _ _) rfl ?_
      exact ⟨HF7.out, Or.inr ⟨j1, j2, _, rfl, HE.out, HL7.out, HM7.out, HK6.out, HK7.out⟩⟩
    · have HB5 := hid (HN.out n he _ HA5.out)
      have HB6 := hid (fun W h => HN'.out n he W h)
      obtain ⟨C, hC⟩ : ∃ C, C = chk S f c n := ⟨_, rfl⟩
      rw [← hC] at HB5 HB6
      have q6 : (C == C) = true := by simp
      clear he H1 H2 HB HB' HN HN' hC
      go_wp2_with fail
      refine HB5.out.mono ?_
      rintro e w6 ⟨rfl, rfl⟩
      go_wp2_with fail
      refine (HB6.out _ HR5.out).mono ?_
      rintro e w7 ⟨rfl, rfl⟩
      go_wp2_with fail
      (try simp only [Exit.inBlock, Exit.then]); refine bodyPost_ret (res4 rfl _ _ _) rfl ?_
      exact ⟨HF5.out, Or.inl ⟨_, rfl⟩⟩
  · rw [if_neg hnn] at hn
    have d0 : decide (0 < nn) = false := decide_eq_false hnn
    subst hn
    by_cases he : chk S f c n = 0
    · have HB5 := hid (HB.out n he _ HA5.out)
      have HB6 := hid (fun W h => HB'.out n he W h)
      have HE := hid he
      clear he H1 H2 HB HB' HN HN'
      go_wp2_with fail
      refine HB5.out.mono ?_
      rintro e w6 ⟨j1, rfl, hl6, hk6, hf6⟩
      have HF6 := hid (HF5.out.trans hf6 (fun _ _ f => f))
      have HX6 := hid (hf6.at HX5.out (fun f => f))
      have HR6 := hid (RC.stay HR5.out hf6 : RA w6 m b1 b2 S)
      have HL6 := hid hl6
      have HK6 := hid (show w.heap.size ≤ j1 by have := HF5.out.size; omega)
      have k1 : w6.cell? ⟨w.heap.size, 1, none⟩ = some (.int .i64 f) := cell_at HX6.out 1
      have k2 : w6.cell? ⟨w.heap.size, 2, none⟩ = some (.int .i64 c) := cell_at HX6.out 2
      clear hl6 hk6 hf6
      go_wp2_with fail
      refine (HB6.out _ HR6.out).mono ?_
      rintro e w7 ⟨j2, rfl, hl7, hk7, hf7⟩
      have HF7 := hid (HF6.out.trans hf7 (fun _ _ f => f))
      have HL7 := hid (HL6.out.stay hf7)
      have HM7 := hid hl7
      have HK7 := hid (show w.heap.size ≤ j2 by have := HF6.out.size; omega)
      clear hl7 hk7 hf7 k1 k2
      go_wp2_with fail
      (try simp only [Exit.inBlock, Exit.then]); refine bodyPost_ret (res4 rfl _ _ _) rfl ?_
      exact ⟨HF7.out, Or.inr ⟨j1, j2, _, rfl, HE.out, HL7.out, HM7.out, HK6.out, HK7.out⟩⟩
    · have HB5 := hid (HN.out n he _ HA5.out)
      have HB6 := hid (fun W h => HN'.out n he W h)
      obtain ⟨C, hC⟩ : ∃ C, C = chk S f c n := ⟨_, rfl⟩
      rw [← hC] at HB5 HB6
      have q6 : (C == C) = true := by simp
      clear he H1 H2 HB HB' HN HN' hC
      go_wp2_with fail
      refine HB5.out.mono ?_
      rintro e w6 ⟨rfl, rfl⟩
      go_wp2_with fail
      refine (HB6.out _ HR5.out).mono ?_
      rintro e w7 ⟨rfl, rfl⟩
      go_wp2_with fail
      (try simp only [Exit.inBlock, Exit.then]); refine bodyPost_ret (res4 rfl _ _ _) rfl ?_
      exact ⟨HF5.out, Or.inl ⟨_, rfl⟩⟩

end Go.Proofs.YthmnchemfigneaaGreat.D
