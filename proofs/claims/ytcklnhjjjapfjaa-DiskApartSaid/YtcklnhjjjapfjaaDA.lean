/-
  DiskApart: two writes that have no sector in common leave the same disk. No condition.
-/
import Derived.Test.YtcklnhjjjapfjaaDX
import Derived.Test.YtcklnhjjjapfjaaPW
import Derived.Test.YtcklnhjjjapfjaaArg
import Derived.Deep.RegionHeld3
namespace Go.Proofs.Ytcklnhjjjapfjaa.D
open Go.RowKit Go.Maps Go.Shelf
set_option linter.unusedVariables false
set_option linter.unusedSimpArgs false

/-- The world is W with new blocks; two calls' records stand in two blocks. -/
structure Two (W : World) (b4 b5 : Nat) (A B : OpV) (w : World) : Prop where
  fr : Fr (fun _ => False) W w
  a : w.heap[b4]? = some (.cells A.val 36)
  b : w.heap[b5]? = some (.cells B.val 36)

theorem cell_stay {w w' : World} (hf : Fr (fun _ => False) w w') {a : Addr} {v : Value} (h : w.cell? a = some v) : w'.cell? a = some v := by
  have hl := World.block_lt_of_cell? w a h
  rw [World.cell?_of_block (w := w) (hf.block _ hl (fun f => f))]
  exact h

theorem Two.step {W : World} {b4 b5 : Nat} {A B : OpV} {w w' : World} (hf : Fr (fun _ => False) w w') (h : Two W b4 b5 A B w) : Two W b4 b5 A B w' :=
  ⟨h.fr.trans hf (fun _ _ f => f), hf.at h.a (fun f => f), hf.at h.b (fun f => f)⟩

theorem op_apart {w : World} {g bm b : Nat} {s : St} {c : Array Value} (h : At w g bm s) (hb : w.heap[b]? = some (.cells c 36)) : ¬ (b = g ∨ b = bm) := by
  obtain ⟨⟨kv, h1, _⟩, m, D, ⟨es, clock, h2, _⟩, _⟩ := h
  rintro (e | e)
  · subst e; rw [h1] at hb; cases hb
  · subst e; rw [h2] at hb; cases hb

theorem Two.beside {W : World} {b4 b5 g bm : Nat} {A B : OpV} {w w' : World} {s : St} (h : Two W b4 b5 A B w) (hd : At w g bm s) (hf : Fr (fun i => i = g ∨ i = bm) w w') (h1 : W.heap.size ≤ g) (h2 : W.heap.size ≤ bm) : Two W b4 b5 A B w' :=
  ⟨h.fr.trans hf (fun i hi e => by rcases e with e | e <;> omega), hf.at h.a (op_apart hd h.a), hf.at h.b (op_apart hd h.b)⟩

theorem keep4 {W w w' : World} {b : Nat} {v : Value} (hf : Fr (fun _ => False) w w') (h : w.cell? ⟨b, 4, none⟩ = some v ∧ Fr (fun _ => False) W w) : w'.cell? ⟨b, 4, none⟩ = some v ∧ Fr (fun _ => False) W w' :=
  ⟨cell_stay hf h.1, h.2.trans hf (fun _ _ f => f)⟩

/-- One of two disks is written. -/
theorem write2 (W w : World) (b4 b5 g bm g' bm' : Nat) (A B : OpV) (s s' : St) (hT : Two W b4 b5 A B w) (h : At w g bm s) (h' : At w g' bm' s') (hs : s.Ok) (h1 : W.heap.size ≤ g) (h2 : W.heap.size ≤ bm) (n1 : g' ≠ g) (n2 : bm' ≠ bm)
    (a : Int) (ha : -9223372036854775808 ≤ a) (ha2 : a ≤ 9223372036854775807) (l : List UInt8) (hl : l.length ≤ 9223372036854775807) :
    Calls Try.prog 15 #[.pointer (some ⟨g, 0, none⟩), .int .i64 a, .string (bs l)] w fun e w' =>
      e = .returned (.int .i64 (s.write a l).2) ∧ ∃ bm2, At w' g bm2 (s.write a l).1 ∧ At w' g' bm' s' ∧ Two W b4 b5 A B w' ∧ bm' ≠ bm2 ∧ W.heap.size ≤ bm2 := by
  have := write_c w g bm s h hs a ha ha2 l hl
  unfold WriteC at this
  refine this.mono ?_
  rintro e w2 ⟨he, ⟨bm2, hA, hb⟩, hf⟩
  have hl' := h'.low
  have hW := hT.fr.size
  refine ⟨he, bm2, hA, h'.beside h hf n1 n2, hT.beside h hf h1 h2, ?_, ?_⟩ <;> rcases hb with hb | hb <;> omega

def Fill2 (w : World) (b4 b5 : Nat) (A B : OpV) : Prop := w.cell? ⟨b4, 2, none⟩ = some (.int .i64 A.n) ∧ w.cell? ⟨b4, 3, none⟩ = some (.int .u8 (A.fill.toNat : Int)) ∧ w.cell? ⟨b5, 2, none⟩ = some (.int .i64 B.n) ∧ w.cell? ⟨b5, 3, none⟩ = some (.int .u8 (B.fill.toNat : Int))
theorem keep2 {W : World} {b4 b5 : Nat} {A B : OpV} {w w' : World} (hf : Fr (fun _ => False) w w') (h : w.cell? ⟨b4, 2, none⟩ = some (.int .i64 A.n) ∧ w.cell? ⟨b4, 3, none⟩ = some (.int .u8 (A.fill.toNat : Int)) ∧ w.cell? ⟨b5, 2, none⟩ = some (.int .i64 B.n) ∧ w.cell? ⟨b5, 3, none⟩ = some (.int .u8 (B.fill.toNat : Int)) ∧ Fr (fun _ => False) W w) :
    w'.cell? ⟨b4, 2, none⟩ = some (.int .i64 A.n) ∧ w'.cell? ⟨b4, 3, none⟩ = some (.int .u8 (A.fill.toNat : Int)) ∧ w'.cell? ⟨b5, 2, none⟩ = some (.int .i64 B.n) ∧ w'.cell? ⟨b5, 3, none⟩ = some (.int .u8 (B.fill.toNat : Int)) ∧ Fr (fun _ => False) W w' := by
  obtain ⟨h1, h2, h3, h4, h0⟩ := h
  exact ⟨cell_stay hf h1, cell_stay hf h2, cell_stay hf h3, cell_stay hf h4, h0.trans hf (fun _ _ f => f)⟩

set_option maxHeartbeats 8000000 in
set_option maxRecDepth 100000 in
theorem apart_law (sec : Int) (A B : OpV) (ka : List Int) (w : World) (hka : IntsV w A.kv ka) (ha : -9223372036854775808 ≤ A.at_) (ha2 : A.at_ ≤ 9223372036854775807) (hb : -9223372036854775808 ≤ B.at_) (hb2 : B.at_ ≤ 9223372036854775807) : Calls Try.prog 4 #[.int .i64 sec, .agg A.val, .agg B.val] w fun e w' => e = .returned (.bool true) ∧ Fr (fun _ => False) w w' := by
  obtain ⟨N, hN⟩ : ∃ N : Nat, N = (max 1 (min sec 64)).toNat := ⟨_, rfl⟩
  have hN1 : 1 ≤ N ∧ N ≤ 64 := by omega
  have hmin : ∀ w, (Builtin.min_ #[3, 3] 3 #[.int .i64 sec, .int .i64 64]).run Try.prog w = .ok (.int .i64 (min sec 64)) w := by
    intro w
    rw [run_min_int2]
    congr 2
    split <;> omega
  have hmax : ∀ w, (Builtin.max_ #[3, 3] 3 #[.int .i64 1, .int .i64 (min sec 64)]).run Try.prog w = .ok (.int .i64 (N : Int)) w := by
    intro w
    rw [run_max_int2]
    congr 2
    rw [hN]
    split <;> omega
  obtain ⟨M, hM⟩ : ∃ M, M = min sec 64 := ⟨_, rfl⟩
  rw [← hM] at hmin hmax
  clear hN hM
  have hf0 : Fr (fun _ => False) w ((w.alloc (.cells A.val 36)).alloc (.cells B.val 36)) := ((Fr.refl _ w).alloc _).alloc _
  have hb4 : ((w.alloc (.cells A.val 36)).alloc (.cells B.val 36)).heap[w.heap.size]? = some (.cells A.val 36) := (Below.heap_alloc _ _ _ (by simp)).trans (MapKept.heap_alloc w _).1
  have hb5 : ((w.alloc (.cells A.val 36)).alloc (.cells B.val 36)).heap[w.heap.size + 1]? = some (.cells B.val 36) := by
    have := (MapKept.heap_alloc (w.alloc (.cells A.val 36)) (.cells B.val 36)).1
    rwa [show (w.alloc (.cells A.val 36)).heap.size = w.heap.size + 1 by simp] at this
  have hT := hid (show Two w w.heap.size (w.heap.size + 1) A B ((w.alloc (.cells A.val 36)).alloc (.cells B.val 36)) from ⟨hf0, hb4, hb5⟩)
  have hKA := hid hka
  clear hf0 hb4 hb5 hka
  obtain ⟨W0, eW0⟩ : ∃ W0, W0 = (w.alloc (.cells A.val 36)).alloc (.cells B.val 36) := ⟨_, rfl⟩
  go_enter Try.func4, Try.ntmps4
  go_wp2_with fail
  rw [← eW0] at hT ⊢
  clear eW0
  obtain ⟨b5, e5⟩ : ∃ b5, b5 = w.heap.size + 1 := ⟨_, rfl⟩
  obtain ⟨b4, e4⟩ : ∃ b4, b4 = w.heap.size := ⟨_, rfl⟩
  rw [← e5, ← e4] at hT ⊢
  clear e4 e5 hmin hmax
  have k2 : W0.cell? ⟨b4, 2, none⟩ = some (.int .i64 A.n) := cell_at hT.out.a 2
  have k3 : W0.cell? ⟨b4, 3, none⟩ = some (.int .u8 (A.fill.toNat : Int)) := cell_at hT.out.a 3
  have k6 : W0.cell? ⟨b5, 2, none⟩ = some (.int .i64 B.n) := cell_at hT.out.b 2
  have k7 : W0.cell? ⟨b5, 3, none⟩ = some (.int .u8 (B.fill.toNat : Int)) := cell_at hT.out.b 3
  have hfw : Fr (fun _ => False) W0 W0.drew := (Fr.refl _ _).drew
  go_region_held3 (fun w' => w'.cell? ⟨b4, 2, none⟩ = some (.int .i64 A.n) ∧ w'.cell? ⟨b4, 3, none⟩ = some (.int .u8 (A.fill.toNat : Int)) ∧ w'.cell? ⟨b5, 2, none⟩ = some (.int .i64 B.n) ∧ w'.cell? ⟨b5, 3, none⟩ = some (.int .u8 (B.fill.toNat : Int)) ∧ Fr (fun _ => False) W0 w')
    (first | exact ⟨k2, k3, k6, k7, hfw⟩ | exact keep2 (by first | assumption | exact (Fr.refl _ _).drew) (by assumption) | go_keep)
    (first
      | (go_at_call_of 14 (Value.int .i64 A.n); refine (fill_c A.n A.fill _).mono ?_; rintro e w' ⟨rfl, hf'⟩)
      | (go_at_call_of 14 (Value.int .i64 B.n); refine (fill_c B.n B.fill _).mono ?_; rintro e w' ⟨rfl, hf'⟩))
  rename_i hS
  have hF1 : Fr (fun _ => False) w w' := hT.out.fr.trans hS.2.2.2.2 (fun _ _ f => f)
  have HF1 := hid hF1
  have HT1 := hid (hT.out.step hS.2.2.2.2)
  obtain ⟨s, es⟩ : ∃ s, s = fillL A.n A.fill := ⟨_, rfl⟩
  obtain ⟨t, et⟩ : ∃ t, t = fillL B.n B.fill := ⟨_, rfl⟩
  rw [← es, ← et]
  have HLs := hid (show s.length ≤ 4480 by rw [es, fillL_length, fillN]; omega)
  have HLt := hid (show t.length ≤ 4480 by rw [et, fillL_length, fillN]; omega)
  clear es et hS hF1 k2 k3 k6 k7 hfw hf' hT
  obtain ⟨w1, ew1⟩ : ∃ w1, w1 = w' := ⟨_, rfl⟩
  rw [← ew1] at HF1 HT1 ⊢
  clear ew1
  obtain ⟨Z, hZ⟩ : ∃ Z, Z = zero (64 * N) := ⟨_, rfl⟩
  have HI := hid (show IsImage Z by rw [hZ]; simp only [IsImage, zero, List.length_replicate]; omega)
  have hZn : (news Z).n = N := by simp [St.n, news, hZ, zero]
  have hmk : ∀ w : World, (Instr.makeSlice 26 (.int .i64 (64 * (N : Int))) (.int .i64 (64 * (N : Int)))).run Try.prog w = .ok (.slice (some ⟨w.heap.size, 0, none⟩) (64 * N) (64 * N)) (w.alloc (.cells (bytesOf Z).toArray 5)) := fun w => by
    have := mkz (64 * N) (by omega) w
    rw [hZ]
    exact_mod_cast this
  have hms : ∀ w : World, (convert 26 9 (.slice (some ⟨w.heap.size, 0, none⟩) (64 * N) (64 * N))).run Try.prog (w.alloc (.cells (bytesOf Z).toArray 5)) = .ok (.string (bs Z)) (w.alloc (.cells (bytesOf Z).toArray 5)) := fun w => by
    rw [hZ]
    exact mks (64 * N) w
  have hwr : IntKind.i64.wrap (64 * (N : Int)) = 64 * (N : Int) := by rw [IntKind.wrap_i64]; omega
  obtain ⟨S0, hS0⟩ : ∃ S0, S0 = news Z := ⟨_, rfl⟩
  have HOk := hid (show S0.Ok by rw [hS0]; exact news_ok HI.out)
  have HN0 := hid (show S0.n = N by rw [hS0]; exact hZn)
  have HAP := hid (write_apart S0 (by rw [hS0]; rfl) (by rw [hS0]; rfl) A.at_ B.at_ s t)
  have HCA := hid (write_calm S0 (by rw [hS0]; rfl) (by rw [hS0]; rfl) A.at_ s)
  have HWA := hid (write_armed S0 (by rw [hS0]; rfl) (by rw [hS0]; rfl) A.at_ s)
  have HCB := hid (write_calm (S0.write A.at_ s).1 HWA.out.1 HWA.out.2.1 B.at_ t)
  have HS0 := hid hS0
  clear hZ hZn hS0
  have HNC := hid (new_c (w1.alloc (.cells (bytesOf Z).toArray 5)) Z HI.out)
  have hmk1 := hmk w1
  have hms1 := hms w1
  have HMK := hid hmk
  have HMS := hid hms
  clear hmk hms
  go_wp2_with fail
  refine HNC.out.mono ?_
  rintro e w2 ⟨g1, bm1, rfl, hA2, hg1, hbm1, hf2⟩
  rw [← HS0.out] at hA2
  have hf2' := ((Fr.refl (fun _ => False) w1).alloc (.cells (bytesOf Z).toArray 5)).trans hf2 (fun _ _ f => f)
  have HC2 := hid hA2
  have HT2 := hid (HT1.out.step hf2')
  have hlo1 : w1.heap.size ≤ g1 ∧ w1.heap.size ≤ bm1 := by
    have : w1.heap.size ≤ (w1.alloc (.cells (bytesOf Z).toArray 5)).heap.size := by simp
    omega
  have hsz1 : w.heap.size ≤ w1.heap.size := HF1.out.size
  have hmk2 := HMK.out w2
  have hms2 := HMS.out w2
  have HND := hid (new_c (w2.alloc (.cells (bytesOf Z).toArray 5)) Z HI.out)
  clear hA2 hf2 hf2' hmk1 hms1 hg1 hbm1 HNC HF1 HT1
  go_wp2_with fail
  refine HND.out.mono ?_
  rintro e w3 ⟨g2, bm2, rfl, hA3, hg2, hbm2, hf3⟩
  rw [← HS0.out] at hA3
  have hf3' := ((Fr.refl (fun _ => False) w2).alloc (.cells (bytesOf Z).toArray 5)).trans hf3 (fun _ _ f => f)
  have HD3 := hid hA3
  have HC3 := hid (HC2.out.stay hf3')
  have HT3 := hid (HT2.out.step hf3')
  have hlo2 : w2.heap.size ≤ g2 ∧ w2.heap.size ≤ bm2 := by
    have : w2.heap.size ≤ (w2.alloc (.cells (bytesOf Z).toArray 5)).heap.size := by simp
    omega
  have hlow1 := HC2.out.low
  have hn1 : g1 ≠ g2 := by omega
  have hn2 : bm1 ≠ bm2 := by omega
  have hsz2 : w.heap.size ≤ g2 ∧ w.heap.size ≤ bm2 ∧ w.heap.size ≤ g1 ∧ w.heap.size ≤ bm1 := by
    have := HT2.out.fr.size
    omega
  clear hA3 hf3 hf3' hmk2 hms2 hg2 hbm2 HND HC2 HT2 HMK HMS
  have a1 : w3.cell? ⟨b4, 1, none⟩ = some (.int .i64 A.at_) := cell_at HT3.out.a 1
  have HW1 := hid (write2 w w3 b4 b5 g1 bm1 g2 bm2 A B S0 S0 HT3.out HC3.out HD3.out HOk.out hsz2.2.2.1 hsz2.2.2.2 hn1.symm hn2.symm A.at_ ha ha2 s (by have := HLs.out; omega))
  go_wp2_with fail
  refine HW1.out.mono ?_
  rintro e w4 ⟨rfl, bm4, hC4, hD4, hT4, hn4, hs4⟩
  have HC4 := hid hC4
  have HD4 := hid hD4
  have HT4 := hid hT4
  obtain ⟨HOk4, HN4⟩ := write_ok HOk.out A.at_ s
  have HOk4 := hid HOk4
  clear hC4 hD4 hT4 a1 HN4
  have a2 : w4.cell? ⟨b5, 1, none⟩ = some (.int .i64 B.at_) := cell_at HT4.out.b 1
  have HW2 := hid (write2 w w4 b4 b5 g1 bm4 g2 bm2 A B _ S0 HT4.out HC4.out HD4.out HOk4.out hsz2.2.2.1 hs4 hn1.symm hn4 B.at_ hb hb2 t (by have := HLt.out; omega))
  go_wp2_with fail
  refine HW2.out.mono ?_
  rintro e w5 ⟨rfl, bm5, hC5, hD5, hT5, hn5, hs5⟩
  have HC5 := hid hC5
  have HD5 := hid hD5
  have HT5 := hid hT5
  have HOk5 := hid (write_ok HOk4.out B.at_ t).1
  clear hC5 hD5 hT5 a2
  have a3 : w5.cell? ⟨b5, 1, none⟩ = some (.int .i64 B.at_) := cell_at HT5.out.b 1
  have HW3 := hid (write2 w w5 b4 b5 g2 bm2 g1 bm5 A B S0 _ HT5.out HD5.out HC5.out HOk.out hsz2.1 hsz2.2.1 hn1 hn5.symm B.at_ hb hb2 t (by have := HLt.out; omega))
  go_wp2_with fail
  refine HW3.out.mono ?_
  rintro e w6 ⟨rfl, bm6, hD6, hC6, hT6, hn6, hs6⟩
  have HC6 := hid hC6
  have HD6 := hid hD6
  have HT6 := hid hT6
  have HOk6 := hid (write_ok HOk.out B.at_ t).1
  clear hC6 hD6 hT6 a3
  have a4 : w6.cell? ⟨b4, 1, none⟩ = some (.int .i64 A.at_) := cell_at HT6.out.a 1
  have HW4 := hid (write2 w w6 b4 b5 g2 bm6 g1 bm5 A B _ _ HT6.out HD6.out HC6.out HOk6.out hsz2.1 hs6 hn1 hn6 A.at_ ha ha2 s (by have := HLs.out; omega))
  go_wp2_with fail
  refine HW4.out.mono ?_
  rintro e w7 ⟨rfl, bm7, hD7, hC7, hT7, hn7, hs7⟩
  have HC7 := hid hC7
  have HD7 := hid hD7
  have HT7 := hid hT7
  clear hC7 hD7 hT7 a4
  rw [← HAP.out.1, ← HAP.out.2.1]
  clear HC3 HC4 HC5 HC6 HD3 HD4 HD5 HD6 HT3 HT4 HT5 HT6 HW1 HW2 HW3 HW4 hn4 hn5 hn6 hn7 hs4 hs5 hs6 hs7
  obtain ⟨e0, he0⟩ : ∃ e0, e0 = (S0.write A.at_ s).2 := ⟨_, rfl⟩
  obtain ⟨f0, hf0⟩ : ∃ f0, f0 = ((S0.write A.at_ s).1.write B.at_ t).2 := ⟨_, rfl⟩
  rw [← he0, ← hf0]
  have HE0 := hid he0
  have HF0 := hid hf0
  clear he0 hf0
  have q1 : w7.cell? ⟨b4, 1, none⟩ = some (.int .i64 A.at_) := cell_at HT7.out.a 1
  have q2 : w7.cell? ⟨b5, 1, none⟩ = some (.int .i64 B.at_) := cell_at HT7.out.b 1
  have q4 : w7.cell? ⟨b4, 4, none⟩ = some A.kv := cell_at HT7.out.a 4
  by_cases he : e0 = 0
  · by_cases hf : f0 = 0
    · have hbA : ¬ badW N A.at_ s := by
        have h1 := HCA.out.1
        rw [← HE0.out, he, HN0.out] at h1
        exact code_bad.1 h1.symm
      have hbB : ¬ badW N B.at_ t := by
        have h1 := HCB.out.1
        rw [← HF0.out, hf, HWA.out.2.2, HN0.out] at h1
        exact code_bad.1 h1.symm
      unfold badW at hbA hbB
      have r1 : 0 ≤ A.at_ := by omega
      have r2 : A.at_ ≤ 64 := by omega
      have r3 : 0 ≤ B.at_ := by omega
      have r4 : B.at_ ≤ 64 := by omega
      have r5 := HLs.out
      have r6 := HLt.out
      clear hbA hbB
      have HEE := hid he
      have HFF := hid hf
      by_cases o1 : A.at_ < B.at_ + (t.length : Int) / 64
      · by_cases o2 : B.at_ < A.at_ + (s.length : Int) / 64
        · clear HAP HCA HCB HWA HOk HOk4 HOk5 HOk6 HC7 HD7 HE0 HF0 q4
          go_wp2_with fail
          refine (fixed_c w7).mono ?_
          rintro e w8 ⟨rfl, hf8⟩
          have hF9 := hid (HT7.out.fr.trans hf8 (fun _ _ f => f))
          clear hf8
          go_wp2_with fail
          go_ret
          exact ⟨rfl, hF9.out⟩
        · have hno : ¬ (e0 = 0 ∧ f0 = 0 ∧ A.at_ < B.at_ + (t.length / 64 : Nat) ∧ B.at_ < A.at_ + (s.length / 64 : Nat)) := fun h => o2 (by have := h.2.2.2; omega)
          have heq := (HAP.out.2.2 (by rw [← HE0.out, ← HF0.out]; exact hno))
          have HD8 := hid (show At w7 g2 bm7 ((S0.write A.at_ s).1.write B.at_ t).1 from heq ▸ HD7.out)
          have HOk8 := hid (write_ok HOk4.out B.at_ t).1
          obtain ⟨C, hC⟩ : ∃ C, C = ((S0.write A.at_ s).1.write B.at_ t).1 := ⟨_, rfl⟩
          rw [← hC] at HD8 HOk8
          have HC8 := hid (show At w7 g1 bm5 C from hC ▸ HC7.out)
          have hI1 := hid (show ∀ w', (w'.cell? ⟨b4, 4, none⟩ = some A.kv ∧ Fr (fun _ => False) w7 w') → Calls Try.prog 16 #[.pointer (some ⟨g1, 0, none⟩)] w' fun e w'' => e = .returned (.string (bs C.image)) ∧ Fr (fun _ => False) w' w'' from fun w' hf => image_c w' g1 bm5 C (HC8.out.stay hf.2) HOk8.out)
          have hI2 := hid (show ∀ w', (w'.cell? ⟨b4, 4, none⟩ = some A.kv ∧ Fr (fun _ => False) w7 w') → Calls Try.prog 16 #[.pointer (some ⟨g2, 0, none⟩)] w' fun e w'' => e = .returned (.string (bs C.image)) ∧ Fr (fun _ => False) w' w'' from fun w' hf => image_c w' g2 bm7 C (HD8.out.stay hf.2) HOk8.out)
          have hA1 := hid (show ∀ w', (w'.cell? ⟨b4, 4, none⟩ = some A.kv ∧ Fr (fun _ => False) w7 w') → Calls Try.prog 17 #[.pointer (some ⟨g1, 0, none⟩), A.kv] w' fun e w'' => e = .returned (.string (bs (C.after ka))) ∧ Fr (fun _ => False) w' w'' from fun w' hf => after_c w' g1 bm5 C (HC8.out.stay hf.2) HOk8.out A.kv ka ((hKA.out.stay HT7.out.fr).stay hf.2))
          have hA2 := hid (show ∀ w', (w'.cell? ⟨b4, 4, none⟩ = some A.kv ∧ Fr (fun _ => False) w7 w') → Calls Try.prog 17 #[.pointer (some ⟨g2, 0, none⟩), A.kv] w' fun e w'' => e = .returned (.string (bs (C.after ka))) ∧ Fr (fun _ => False) w' w'' from fun w' hf => after_c w' g2 bm7 C (HD8.out.stay hf.2) HOk8.out A.kv ka ((hKA.out.stay HT7.out.fr).stay hf.2))
          have hX := hid (show ∀ w', (w'.cell? ⟨b4, 4, none⟩ = some A.kv ∧ Fr (fun _ => False) w7 w') → Calls Try.prog 10 #[] w' fun e w'' => e = .returned (.bool true) ∧ Fr (fun _ => False) w' w'' from fun w' _ => fixed_c w')
          obtain ⟨I, hIe⟩ : ∃ I, I = C.image := ⟨_, rfl⟩
          obtain ⟨J, hJe⟩ : ∃ J, J = C.after ka := ⟨_, rfl⟩
          rw [← hIe] at hI1 hI2
          rw [← hJe] at hA1 hA2
          clear hIe hJe HC8 HD8 HOk8 HC7 HD7 hC heq HOk4 HOk5 HOk6 HAP HCA HCB HWA HOk
          go_wp2_with fail
          have hfw : Fr (fun _ => False) w7 w7.drew := (Fr.refl _ _).drew
          go_region_held3 (fun w' => w'.cell? ⟨b4, 4, none⟩ = some A.kv ∧ Fr (fun _ => False) w7 w')
            (first | exact ⟨q4, hfw⟩ | exact keep4 (by first | assumption | exact (Fr.refl _ _).drew) (by assumption) | go_keep)
            (first
              | (go_at_call 10; refine (hX.out _ (by assumption)).mono ?_; rintro e w' ⟨rfl, hf'⟩)
              | (go_at_call_of 16 (Value.pointer (some ⟨g1, 0, none⟩)); refine (hI1.out _ (by assumption)).mono ?_; rintro e w' ⟨rfl, hf'⟩)
              | (go_at_call_of 16 (Value.pointer (some ⟨g2, 0, none⟩)); refine (hI2.out _ (by assumption)).mono ?_; rintro e w' ⟨rfl, hf'⟩)
              | (go_at_call_of 17 (Value.pointer (some ⟨g1, 0, none⟩)); refine (hA1.out _ (by assumption)).mono ?_; rintro e w' ⟨rfl, hf'⟩)
              | (go_at_call_of 17 (Value.pointer (some ⟨g2, 0, none⟩)); refine (hA2.out _ (by assumption)).mono ?_; rintro e w' ⟨rfl, hf'⟩))
          all_goals (
            rename_i hS
            have hF9 := HT7.out.fr.trans hS.2 (fun _ _ f => f)
            go_wp2_with fail
            go_ret
            exact ⟨rfl, hF9⟩)
      · have hno : ¬ (e0 = 0 ∧ f0 = 0 ∧ A.at_ < B.at_ + (t.length / 64 : Nat) ∧ B.at_ < A.at_ + (s.length / 64 : Nat)) := fun h => o1 (by have := h.2.2.1; omega)
        have heq := (HAP.out.2.2 (by rw [← HE0.out, ← HF0.out]; exact hno))
        have HD8 := hid (show At w7 g2 bm7 ((S0.write A.at_ s).1.write B.at_ t).1 from heq ▸ HD7.out)
        have HOk8 := hid (write_ok HOk4.out B.at_ t).1
        obtain ⟨C, hC⟩ : ∃ C, C = ((S0.write A.at_ s).1.write B.at_ t).1 := ⟨_, rfl⟩
        rw [← hC] at HD8 HOk8
        have HC8 := hid (show At w7 g1 bm5 C from hC ▸ HC7.out)
        have hI1 := hid (show ∀ w', (w'.cell? ⟨b4, 4, none⟩ = some A.kv ∧ Fr (fun _ => False) w7 w') → Calls Try.prog 16 #[.pointer (some ⟨g1, 0, none⟩)] w' fun e w'' => e = .returned (.string (bs C.image)) ∧ Fr (fun _ => False) w' w'' from fun w' hf => image_c w' g1 bm5 C (HC8.out.stay hf.2) HOk8.out)
        have hI2 := hid (show ∀ w', (w'.cell? ⟨b4, 4, none⟩ = some A.kv ∧ Fr (fun _ => False) w7 w') → Calls Try.prog 16 #[.pointer (some ⟨g2, 0, none⟩)] w' fun e w'' => e = .returned (.string (bs C.image)) ∧ Fr (fun _ => False) w' w'' from fun w' hf => image_c w' g2 bm7 C (HD8.out.stay hf.2) HOk8.out)
        have hA1 := hid (show ∀ w', (w'.cell? ⟨b4, 4, none⟩ = some A.kv ∧ Fr (fun _ => False) w7 w') → Calls Try.prog 17 #[.pointer (some ⟨g1, 0, none⟩), A.kv] w' fun e w'' => e = .returned (.string (bs (C.after ka))) ∧ Fr (fun _ => False) w' w'' from fun w' hf => after_c w' g1 bm5 C (HC8.out.stay hf.2) HOk8.out A.kv ka ((hKA.out.stay HT7.out.fr).stay hf.2))
        have hA2 := hid (show ∀ w', (w'.cell? ⟨b4, 4, none⟩ = some A.kv ∧ Fr (fun _ => False) w7 w') → Calls Try.prog 17 #[.pointer (some ⟨g2, 0, none⟩), A.kv] w' fun e w'' => e = .returned (.string (bs (C.after ka))) ∧ Fr (fun _ => False) w' w'' from fun w' hf => after_c w' g2 bm7 C (HD8.out.stay hf.2) HOk8.out A.kv ka ((hKA.out.stay HT7.out.fr).stay hf.2))
        have hX := hid (show ∀ w', (w'.cell? ⟨b4, 4, none⟩ = some A.kv ∧ Fr (fun _ => False) w7 w') → Calls Try.prog 10 #[] w' fun e w'' => e = .returned (.bool true) ∧ Fr (fun _ => False) w' w'' from fun w' _ => fixed_c w')
        obtain ⟨I, hIe⟩ : ∃ I, I = C.image := ⟨_, rfl⟩
        obtain ⟨J, hJe⟩ : ∃ J, J = C.after ka := ⟨_, rfl⟩
        rw [← hIe] at hI1 hI2
        rw [← hJe] at hA1 hA2
        clear hIe hJe HC8 HD8 HOk8 HC7 HD7 hC heq HOk4 HOk5 HOk6 HAP HCA HCB HWA HOk
        go_wp2_with fail
        have hfw : Fr (fun _ => False) w7 w7.drew := (Fr.refl _ _).drew
        go_region_held3 (fun w' => w'.cell? ⟨b4, 4, none⟩ = some A.kv ∧ Fr (fun _ => False) w7 w')
          (first | exact ⟨q4, hfw⟩ | exact keep4 (by first | assumption | exact (Fr.refl _ _).drew) (by assumption) | go_keep)
          (first
            | (go_at_call 10; refine (hX.out _ (by assumption)).mono ?_; rintro e w' ⟨rfl, hf'⟩)
            | (go_at_call_of 16 (Value.pointer (some ⟨g1, 0, none⟩)); refine (hI1.out _ (by assumption)).mono ?_; rintro e w' ⟨rfl, hf'⟩)
            | (go_at_call_of 16 (Value.pointer (some ⟨g2, 0, none⟩)); refine (hI2.out _ (by assumption)).mono ?_; rintro e w' ⟨rfl, hf'⟩)
            | (go_at_call_of 17 (Value.pointer (some ⟨g1, 0, none⟩)); refine (hA1.out _ (by assumption)).mono ?_; rintro e w' ⟨rfl, hf'⟩)
            | (go_at_call_of 17 (Value.pointer (some ⟨g2, 0, none⟩)); refine (hA2.out _ (by assumption)).mono ?_; rintro e w' ⟨rfl, hf'⟩))
        all_goals (
          rename_i hS
          have hF9 := HT7.out.fr.trans hS.2 (fun _ _ f => f)
          go_wp2_with fail
          go_ret
          exact ⟨rfl, hF9⟩)
    · have hno : ¬ (e0 = 0 ∧ f0 = 0 ∧ A.at_ < B.at_ + (t.length / 64 : Nat) ∧ B.at_ < A.at_ + (s.length / 64 : Nat)) := fun h => hf h.2.1
      have hf1 : (f0 == 0) = false := by simpa using hf
      have heq := (HAP.out.2.2 (by rw [← HE0.out, ← HF0.out]; exact hno))
      have HD8 := hid (show At w7 g2 bm7 ((S0.write A.at_ s).1.write B.at_ t).1 from heq ▸ HD7.out)
      have HOk8 := hid (write_ok HOk4.out B.at_ t).1
      obtain ⟨C, hC⟩ : ∃ C, C = ((S0.write A.at_ s).1.write B.at_ t).1 := ⟨_, rfl⟩
      rw [← hC] at HD8 HOk8
      have HC8 := hid (show At w7 g1 bm5 C from hC ▸ HC7.out)
      have hI1 := hid (show ∀ w', (w'.cell? ⟨b4, 4, none⟩ = some A.kv ∧ Fr (fun _ => False) w7 w') → Calls Try.prog 16 #[.pointer (some ⟨g1, 0, none⟩)] w' fun e w'' => e = .returned (.string (bs C.image)) ∧ Fr (fun _ => False) w' w'' from fun w' hf => image_c w' g1 bm5 C (HC8.out.stay hf.2) HOk8.out)
      have hI2 := hid (show ∀ w', (w'.cell? ⟨b4, 4, none⟩ = some A.kv ∧ Fr (fun _ => False) w7 w') → Calls Try.prog 16 #[.pointer (some ⟨g2, 0, none⟩)] w' fun e w'' => e = .returned (.string (bs C.image)) ∧ Fr (fun _ => False) w' w'' from fun w' hf => image_c w' g2 bm7 C (HD8.out.stay hf.2) HOk8.out)
      have hA1 := hid (show ∀ w', (w'.cell? ⟨b4, 4, none⟩ = some A.kv ∧ Fr (fun _ => False) w7 w') → Calls Try.prog 17 #[.pointer (some ⟨g1, 0, none⟩), A.kv] w' fun e w'' => e = .returned (.string (bs (C.after ka))) ∧ Fr (fun _ => False) w' w'' from fun w' hf => after_c w' g1 bm5 C (HC8.out.stay hf.2) HOk8.out A.kv ka ((hKA.out.stay HT7.out.fr).stay hf.2))
      have hA2 := hid (show ∀ w', (w'.cell? ⟨b4, 4, none⟩ = some A.kv ∧ Fr (fun _ => False) w7 w') → Calls Try.prog 17 #[.pointer (some ⟨g2, 0, none⟩), A.kv] w' fun e w'' => e = .returned (.string (bs (C.after ka))) ∧ Fr (fun _ => False) w' w'' from fun w' hf => after_c w' g2 bm7 C (HD8.out.stay hf.2) HOk8.out A.kv ka ((hKA.out.stay HT7.out.fr).stay hf.2))
      have hX := hid (show ∀ w', (w'.cell? ⟨b4, 4, none⟩ = some A.kv ∧ Fr (fun _ => False) w7 w') → Calls Try.prog 10 #[] w' fun e w'' => e = .returned (.bool true) ∧ Fr (fun _ => False) w' w'' from fun w' _ => fixed_c w')
      obtain ⟨I, hIe⟩ : ∃ I, I = C.image := ⟨_, rfl⟩
      obtain ⟨J, hJe⟩ : ∃ J, J = C.after ka := ⟨_, rfl⟩
      rw [← hIe] at hI1 hI2
      rw [← hJe] at hA1 hA2
      clear hIe hJe HC8 HD8 HOk8 HC7 HD7 hC heq HOk4 HOk5 HOk6 HAP HCA HCB HWA HOk
      go_wp2_with fail
      have hfw : Fr (fun _ => False) w7 w7.drew := (Fr.refl _ _).drew
      go_region_held3 (fun w' => w'.cell? ⟨b4, 4, none⟩ = some A.kv ∧ Fr (fun _ => False) w7 w')
        (first | exact ⟨q4, hfw⟩ | exact keep4 (by first | assumption | exact (Fr.refl _ _).drew) (by assumption) | go_keep)
        (first
          | (go_at_call 10; refine (hX.out _ (by assumption)).mono ?_; rintro e w' ⟨rfl, hf'⟩)
          | (go_at_call_of 16 (Value.pointer (some ⟨g1, 0, none⟩)); refine (hI1.out _ (by assumption)).mono ?_; rintro e w' ⟨rfl, hf'⟩)
          | (go_at_call_of 16 (Value.pointer (some ⟨g2, 0, none⟩)); refine (hI2.out _ (by assumption)).mono ?_; rintro e w' ⟨rfl, hf'⟩)
          | (go_at_call_of 17 (Value.pointer (some ⟨g1, 0, none⟩)); refine (hA1.out _ (by assumption)).mono ?_; rintro e w' ⟨rfl, hf'⟩)
          | (go_at_call_of 17 (Value.pointer (some ⟨g2, 0, none⟩)); refine (hA2.out _ (by assumption)).mono ?_; rintro e w' ⟨rfl, hf'⟩))
      all_goals (
        rename_i hS
        have hF9 := HT7.out.fr.trans hS.2 (fun _ _ f => f)
        go_wp2_with fail
        go_ret
        exact ⟨rfl, hF9⟩)
  · have hno : ¬ (e0 = 0 ∧ f0 = 0 ∧ A.at_ < B.at_ + (t.length / 64 : Nat) ∧ B.at_ < A.at_ + (s.length / 64 : Nat)) := fun h => he h.1
    have he1 : (e0 == 0) = false := by simpa using he
    have heq := (HAP.out.2.2 (by rw [← HE0.out, ← HF0.out]; exact hno))
    have HD8 := hid (show At w7 g2 bm7 ((S0.write A.at_ s).1.write B.at_ t).1 from heq ▸ HD7.out)
    have HOk8 := hid (write_ok HOk4.out B.at_ t).1
    obtain ⟨C, hC⟩ : ∃ C, C = ((S0.write A.at_ s).1.write B.at_ t).1 := ⟨_, rfl⟩
    rw [← hC] at HD8 HOk8
    have HC8 := hid (show At w7 g1 bm5 C from hC ▸ HC7.out)
    have hI1 := hid (show ∀ w', (w'.cell? ⟨b4, 4, none⟩ = some A.kv ∧ Fr (fun _ => False) w7 w') → Calls Try.prog 16 #[.pointer (some ⟨g1, 0, none⟩)] w' fun e w'' => e = .returned (.string (bs C.image)) ∧ Fr (fun _ => False) w' w'' from fun w' hf => image_c w' g1 bm5 C (HC8.out.stay hf.2) HOk8.out)
    have hI2 := hid (show ∀ w', (w'.cell? ⟨b4, 4, none⟩ = some A.kv ∧ Fr (fun _ => False) w7 w') → Calls Try.prog 16 #[.pointer (some ⟨g2, 0, none⟩)] w' fun e w'' => e = .returned (.string (bs C.image)) ∧ Fr (fun _ => False) w' w'' from fun w' hf => image_c w' g2 bm7 C (HD8.out.stay hf.2) HOk8.out)
    have hA1 := hid (show ∀ w', (w'.cell? ⟨b4, 4, none⟩ = some A.kv ∧ Fr (fun _ => False) w7 w') → Calls Try.prog 17 #[.pointer (some ⟨g1, 0, none⟩), A.kv] w' fun e w'' => e = .returned (.string (bs (C.after ka))) ∧ Fr (fun _ => False) w' w'' from fun w' hf => after_c w' g1 bm5 C (HC8.out.stay hf.2) HOk8.out A.kv ka ((hKA.out.stay HT7.out.fr).stay hf.2))
    have hA2 := hid (show ∀ w', (w'.cell? ⟨b4, 4, none⟩ = some A.kv ∧ Fr (fun _ => False) w7 w') → Calls Try.prog 17 #[.pointer (some ⟨g2, 0, none⟩), A.kv] w' fun e w'' => e = .returned (.string (bs (C.after ka))) ∧ Fr (fun _ => False) w' w'' from fun w' hf => after_c w' g2 bm7 C (HD8.out.stay hf.2) HOk8.out A.kv ka ((hKA.out.stay HT7.out.fr).stay hf.2))
    have hX := hid (show ∀ w', (w'.cell? ⟨b4, 4, none⟩ = some A.kv ∧ Fr (fun _ => False) w7 w') → Calls Try.prog 10 #[] w' fun e w'' => e = .returned (.bool true) ∧ Fr (fun _ => False) w' w'' from fun w' _ => fixed_c w')
    obtain ⟨I, hIe⟩ : ∃ I, I = C.image := ⟨_, rfl⟩
    obtain ⟨J, hJe⟩ : ∃ J, J = C.after ka := ⟨_, rfl⟩
    rw [← hIe] at hI1 hI2
    rw [← hJe] at hA1 hA2
    clear hIe hJe HC8 HD8 HOk8 HC7 HD7 hC heq HOk4 HOk5 HOk6 HAP HCA HCB HWA HOk
    go_wp2_with fail
    have hfw : Fr (fun _ => False) w7 w7.drew := (Fr.refl _ _).drew
    go_region_held3 (fun w' => w'.cell? ⟨b4, 4, none⟩ = some A.kv ∧ Fr (fun _ => False) w7 w')
      (first | exact ⟨q4, hfw⟩ | exact keep4 (by first | assumption | exact (Fr.refl _ _).drew) (by assumption) | go_keep)
      (first
        | (go_at_call 10; refine (hX.out _ (by assumption)).mono ?_; rintro e w' ⟨rfl, hf'⟩)
        | (go_at_call_of 16 (Value.pointer (some ⟨g1, 0, none⟩)); refine (hI1.out _ (by assumption)).mono ?_; rintro e w' ⟨rfl, hf'⟩)
        | (go_at_call_of 16 (Value.pointer (some ⟨g2, 0, none⟩)); refine (hI2.out _ (by assumption)).mono ?_; rintro e w' ⟨rfl, hf'⟩)
        | (go_at_call_of 17 (Value.pointer (some ⟨g1, 0, none⟩)); refine (hA1.out _ (by assumption)).mono ?_; rintro e w' ⟨rfl, hf'⟩)
        | (go_at_call_of 17 (Value.pointer (some ⟨g2, 0, none⟩)); refine (hA2.out _ (by assumption)).mono ?_; rintro e w' ⟨rfl, hf'⟩))
    all_goals (
      rename_i hS
      have hF9 := HT7.out.fr.trans hS.2 (fun _ _ f => f)
      go_wp2_with fail
      go_ret
      exact ⟨rfl, hF9⟩)

end Go.Proofs.Ytcklnhjjjapfjaa.D
