/-
  Both pagers and both disks in one memory; what both tell. No condition.
-/
import Derived.Test.YtjkhcfdflcndkaaGreatKO24
import Derived.Test.YtjkhcfdflcndkaaGreatKO15
import Derived.Test.YtjkhcfdflcndkaaGreatS1
import Derived.Deep.RegionHeld3
namespace Go.Proofs.YtjkhcfdflcndkaaGreat.D
open Go.RowKit Go.Maps Go.Shelf
set_option linter.unusedVariables false
set_option linter.unusedSimpArgs false

section
variable {W w w' : World} {p g bm ml mt q m ub b1 b2 N p0 g0 bm0 ml0 mt0 q0 m0 ub0 b10 b20 : Nat} {P P' P0 Q Q' Q0 : PSt} {S S' S0 R R' R0 : St}

theorem RPD.not (h : RPD w q m ub b1 b2 P S) {b : Nat} {c : Array Value} {T : TypeId} (hb : w.heap[b]? = some (.cells c T)) (h1 : T ≠ 40) (h2 : T ≠ 84) (h3 : T ≠ 9) : ¬ (b = q ∨ b = m ∨ b = b1 ∨ b = b2) := by
  obtain ⟨⟨⟨cap, hq⟩, _⟩, hr⟩ := h
  rintro (e | e)
  · exact other_cells hb hq h1 e
  · exact rcells_apart hr hb h2 h3 e
theorem RPD.notMap (h : RPD w q m ub b1 b2 P S) {b : Nat} {es : Array (Value × Value × Nat)} {c : Nat} (hb : ∃ es c, w.heap[b]? = some (.map es c)) : ¬ (b = q ∨ b = m ∨ b = b1 ∨ b = b2) := by
  obtain ⟨es, c, hb⟩ := hb
  obtain ⟨⟨⟨cap, hq⟩, _⟩, ⟨⟨c1, c2, kv, h1, _⟩, ⟨x, h3, _⟩, ⟨y, h4, _⟩, _⟩⟩ := h
  rintro (e | e | e | e) <;> subst e
  · rw [hq] at hb; cases hb
  · rw [h1] at hb; cases hb
  · rw [h3] at hb; cases hb
  · rw [h4] at hb; cases hb

/-- The document's pager and disk stay where other blocks turn. -/
theorem RPD.keep {A : Nat → Prop} (h : RPD w q m ub b1 b2 P S) (hf : Fr A w w') (hA : ∀ b c T, w.heap[b]? = some (.cells c T) → (T = 40 ∨ T = 84 ∨ T = 9 ∨ T = 3) → ¬ A b) : RPD w' q m ub b1 b2 P S := by
  obtain ⟨⟨⟨cap, hq⟩, hu⟩, ⟨⟨c1, c2, kv, h1, hi⟩, ⟨x, h3, hx⟩, ⟨y, h4, hy⟩, h5⟩⟩ := h
  have hu' := hu
  obtain ⟨cur, hc, _⟩ := hu
  exact ⟨⟨⟨cap, hf.at hq (hA _ _ _ hq (Or.inl rfl))⟩, hu'.keep hf (hA _ _ _ hc (Or.inr (Or.inr (Or.inr rfl))))⟩,
    ⟨⟨c1, c2, kv, hf.at h1 (hA _ _ _ h1 (Or.inr (Or.inl rfl))), hi.keep hf (fun b cur hb => hA _ _ _ hb (Or.inr (Or.inr (Or.inr rfl))))⟩, ⟨x, hf.at h3 (hA _ _ _ h3 (Or.inr (Or.inr (Or.inl rfl)))), hx⟩, ⟨y, hf.at h4 (hA _ _ _ h4 (Or.inr (Or.inr (Or.inl rfl)))), hy⟩, h5⟩⟩
theorem RPD.beside (h : RPD w q m ub b1 b2 Q R) (hd : PD w p g bm ml mt P S) (hf : Fr (inPD p g bm ml mt) w w') : RPD w' q m ub b1 b2 Q R :=
  h.keep hf (fun b c T hb hT => hd.apart hb (by rcases hT with rfl | rfl | rfl | rfl <;> decide) (by rcases hT with rfl | rfl | rfl | rfl <;> decide))
/-- The program's pager and disk stay where other blocks turn. -/
theorem PD.keep {A : Nat → Prop} (h : PD w p g bm ml mt P S) (hf : Fr A w w') (a1 : ¬ A p) (a2 : ¬ A g) (a3 : ¬ A bm) (a4 : ¬ A ml) (a5 : ¬ A mt) (a6 : ∀ b cur, w.heap[b]? = some (.cells cur 3) → ¬ A b) : PD w' p g bm ml mt P S :=
  ⟨⟨hf.at h.pa.1 a1, h.pa.2.1.keep hf a4, h.pa.2.2.1.keep hf a5, h.pa.2.2.2⟩, h.da.keep hf a2 a3 a6, h.n1, h.n2⟩
theorem PD.besideR (h : PD w p g bm ml mt P S) (hr : RPD w q m ub b1 b2 Q R) (hf : Fr (fun i => i = q ∨ i = m ∨ i = b1 ∨ i = b2) w w') : PD w' p g bm ml mt P S := by
  obtain ⟨c, hc⟩ := h.da.isDisk
  exact h.keep hf (hr.not h.pa.1 (by decide) (by decide) (by decide)) (hr.not hc (by decide) (by decide) (by decide)) (hr.notMap (es := #[]) (c := 0) h.da.isMap) (hr.notMap (es := #[]) (c := 0) h.pa.2.1.isMap) (hr.notMap (es := #[]) (c := 0) h.pa.2.2.1.isMap) (fun b cur hb => hr.not hb (by decide) (by decide) (by decide))
/-- Another pager turns, all of its blocks older. -/
theorem PD.older (h : PD w p g bm ml mt P S) (hd : PD w p0 g0 bm0 ml0 mt0 P0 S0) (hf : Fr (inPD p0 g0 bm0 ml0 mt0) w w') (M : Nat) (l0 : p0 < M ∧ g0 < M ∧ bm0 < M ∧ ml0 < M ∧ mt0 < M) (l : M ≤ p ∧ M ≤ g ∧ M ≤ bm ∧ M ≤ ml ∧ M ≤ mt) : PD w' p g bm ml mt P S := by
  have hn : ∀ i, M ≤ i → ¬ inPD p0 g0 bm0 ml0 mt0 i := by
    intro i hi e
    unfold inPD at e
    omega
  exact h.keep hf (hn _ l.1) (hn _ l.2.1) (hn _ l.2.2.1) (hn _ l.2.2.2.1) (hn _ l.2.2.2.2) (fun b cur hb => hd.apart hb (by decide) (by decide))
theorem PTurn.ofM (h : PD w' p g bm ml mt P S) (hf : Fr (fun i => i = mt) w w') : PTurn w w' p g bm ml mt P S :=
  ⟨bm, ml, h, Or.inl rfl, Or.inl rfl, hf.mono (fun i _ e => by unfold inPD; omega)⟩
theorem PD.dT (h : PD w p g bm ml mt P S) {bm' : Nat} (hA : At w' g bm' S') (hb : bm' = bm ∨ w.heap.size ≤ bm') (hf : Fr (fun i => i = g ∨ i = bm) w w') : PTurn w w' p g bm ml mt P S' :=
  ⟨bm', ml, h.dturn hA hb hf, hb, Or.inl rfl, hf.mono (fun i _ e => by unfold inPD; omega)⟩
end

/-! ### both in one memory -/
/-- Boxes of the law's own. -/
def Boxes (w : World) (L : List (Nat × Array Value × TypeId)) : Prop := ∀ e ∈ L, w.heap[e.1]? = some (.cells e.2.1 e.2.2) ∧ (e.2.2 = 24 ∨ e.2.2 = 47)
structure DJP (W w : World) (L : List (Nat × Array Value × TypeId)) (p g bm ml mt q m ub b1 b2 N : Nat) (P : PSt) (S : St) (Q : PSt) (R : St) : Prop where
  pd : PD w p g bm ml mt P S
  rd : RPD w q m ub b1 b2 Q R
  ok : S.Ok
  pok : P.Ok N
  rok : R.Ok
  qok : Q.Ok N
  n : S.n = N ∧ R.n = N
  bx : Boxes w L
  fr : Fr (fun _ => False) W w
  low : W.heap.size ≤ p ∧ W.heap.size ≤ g ∧ W.heap.size ≤ bm ∧ W.heap.size ≤ ml ∧ W.heap.size ≤ mt
  rlow : W.heap.size ≤ q ∧ W.heap.size ≤ m ∧ W.heap.size ≤ b1 ∧ W.heap.size ≤ b2

section
variable {W w w' : World} {L : List (Nat × Array Value × TypeId)} {p g bm ml mt q m ub b1 b2 N p0 g0 bm0 ml0 mt0 : Nat} {P P' P0 Q Q' : PSt} {S S' S0 R R' : St}
theorem Boxes.keep {A : Nat → Prop} (h : Boxes w L) (hf : Fr A w w') (hA : ∀ b c T, w.heap[b]? = some (.cells c T) → (T = 24 ∨ T = 47) → ¬ A b) : Boxes w' L := by
  intro e he
  obtain ⟨h1, h2⟩ := h e he
  exact ⟨hf.at h1 (hA _ _ _ h1 h2), h2⟩
theorem Boxes.beside (h : Boxes w L) (hd : PD w p g bm ml mt P S) (hf : Fr (inPD p g bm ml mt) w w') : Boxes w' L :=
  h.keep hf (fun b c T hb hT => hd.apart hb (by rcases hT with rfl | rfl <;> decide) (by rcases hT with rfl | rfl <;> decide))
theorem Boxes.besideR (h : Boxes w L) (hd : RPD w q m ub b1 b2 Q R) (hf : Fr (fun i => i = q ∨ i = m ∨ i = b1 ∨ i = b2) w w') : Boxes w' L :=
  h.keep hf (fun b c T hb hT => hd.not hb (by rcases hT with rfl | rfl <;> decide) (by rcases hT with rfl | rfl <;> decide) (by rcases hT with rfl | rfl <;> decide))

theorem DJP.stay (h : DJP W w L p g bm ml mt q m ub b1 b2 N P S Q R) (hf : Fr (fun _ => False) w w') : DJP W w' L p g bm ml mt q m ub b1 b2 N P S Q R :=
  ⟨h.pd.stay hf, h.rd.stay hf, h.ok, h.pok, h.rok, h.qok, h.n, h.bx.keep hf (fun _ _ _ _ _ f => f), h.fr.trans hf (fun _ _ f => f), h.low, h.rlow⟩
/-- The program's pager and disk turn. -/
theorem DJP.turn (h : DJP W w L p g bm ml mt q m ub b1 b2 N P S Q R) (t : PTurn w w' p g bm ml mt P' S') (ho : S'.Ok ∧ S'.n = N ∧ P'.Ok N) : ∃ bm' ml', DJP W w' L p g bm' ml' mt q m ub b1 b2 N P' S' Q R := by
  obtain ⟨bm', ml', h1, h2, h3, h4⟩ := t
  have hl := h.low
  have hs := h.fr.size
  exact ⟨bm', ml', h1, h.rd.beside h.pd h4, ho.1, ho.2.2, h.rok, h.qok, ⟨ho.2.1, h.n.2⟩, h.bx.beside h.pd h4, h.fr.trans h4 (fun i hi e => by unfold inPD at e; omega), by omega, h.rlow⟩
/-- The document's pager and disk turn. -/
theorem DJP.rturn (h : DJP W w L p g bm ml mt q m ub b1 b2 N P S Q R) (t : RPTurn w w' q m ub b1 b2 Q' R') (ho : R'.Ok ∧ R'.n = N ∧ Q'.Ok N) : ∃ ub' b1' b2', DJP W w' L p g bm ml mt q m ub' b1' b2' N P S Q' R' := by
  obtain ⟨ub', b1', b2', h1, h2, h3, h4, h5⟩ := t
  have hl := h.rlow
  have hs := h.fr.size
  exact ⟨ub', b1', b2', h.pd.besideR h.rd h5, h1, h.ok, h.pok, ho.1, ho.2.2, ⟨h.n.1, ho.2.1⟩, h.bx.besideR h.rd h5, h.fr.trans h5 (fun i hi e => by omega), h.low, by omega⟩
/-- New pagers over the same disks. -/
theorem DJP.pagers {p' ml' mt' q' ub' : Nat} (h : DJP W w L p g bm ml mt q m ub b1 b2 N P S Q R) (hf : Fr (fun _ => False) w w') (hp : PD w' p' g bm ml' mt' P' S) (hq : RPD w' q' m ub' b1 b2 Q' R) (l1 : w.heap.size ≤ p' ∧ w.heap.size ≤ ml' ∧ w.heap.size ≤ mt' ∧ w.heap.size ≤ q') (ho : P'.Ok N ∧ Q'.Ok N) : DJP W w' L p' g bm ml' mt' q' m ub' b1 b2 N P' S Q' R := by
  have hs := h.fr.size
  have hl := h.low
  have hr := h.rlow
  exact ⟨hp, hq, h.ok, ho.1, h.rok, ho.2, h.n, h.bx.keep hf (fun _ _ _ _ _ f => f), h.fr.trans hf (fun _ _ f => f), by omega, by omega⟩
/-- Another pager, all of whose blocks are older, turns. -/
theorem DJP.older (h : DJP W w L p g bm ml mt q m ub b1 b2 N P S Q R) (hd : PD w p0 g0 bm0 ml0 mt0 P0 S0) (hf : Fr (inPD p0 g0 bm0 ml0 mt0) w w') (M : Nat) (l0 : p0 < M ∧ g0 < M ∧ bm0 < M ∧ ml0 < M ∧ mt0 < M) (l : M ≤ p ∧ M ≤ g ∧ M ≤ bm ∧ M ≤ ml ∧ M ≤ mt) (lw : W.heap.size ≤ p0 ∧ W.heap.size ≤ g0 ∧ W.heap.size ≤ bm0 ∧ W.heap.size ≤ ml0 ∧ W.heap.size ≤ mt0) : DJP W w' L p g bm ml mt q m ub b1 b2 N P S Q R :=
  ⟨h.pd.older hd hf M l0 l, h.rd.beside hd hf, h.ok, h.pok, h.rok, h.qok, h.n, h.bx.beside hd hf, h.fr.trans hf (fun i hi e => by unfold inPD at e; omega), h.low, h.rlow⟩
/-- One more box. -/
theorem DJP.box (h : DJP W w L p g bm ml mt q m ub b1 b2 N P S Q R) {b : Nat} {c : Array Value} {T : TypeId} (hb : w.heap[b]? = some (.cells c T)) (hT : T = 24 ∨ T = 47) : DJP W w ((b, c, T) :: L) p g bm ml mt q m ub b1 b2 N P S Q R :=
  ⟨h.pd, h.rd, h.ok, h.pok, h.rok, h.qok, h.n, fun e he => by
    rcases List.mem_cons.1 he with rfl | he
    · exact ⟨hb, hT⟩
    · exact h.bx e he, h.fr, h.low, h.rlow⟩
theorem DJP.unbox {e : Nat × Array Value × TypeId} (h : DJP W w (e :: L) p g bm ml mt q m ub b1 b2 N P S Q R) : DJP W w L p g bm ml mt q m ub b1 b2 N P S Q R :=
  ⟨h.pd, h.rd, h.ok, h.pok, h.rok, h.qok, h.n, fun e he => h.bx e (List.mem_cons_of_mem _ he), h.fr, h.low, h.rlow⟩
theorem DJP.box1 {e : Nat × Array Value × TypeId} (h : DJP W w (e :: L) p g bm ml mt q m ub b1 b2 N P S Q R) : w.heap[e.1]? = some (.cells e.2.1 e.2.2) := (h.bx e (by simp)).1
theorem DJP.box2 {e f : Nat × Array Value × TypeId} (h : DJP W w (e :: f :: L) p g bm ml mt q m ub b1 b2 N P S Q R) : w.heap[f.1]? = some (.cells f.2.1 f.2.2) := (h.bx f (by simp)).1
/-- Rows of numbers that are older than all stay. -/
theorem DJP.ints (h : DJP W w L p g bm ml mt q m ub b1 b2 N P S Q R) {v : Value} {l : List Int} (hv : IntsV W v l) : ∀ w', Fr (fun i => i = q ∨ i = m ∨ i = b1 ∨ i = b2) w w' → IntsV w' v l := by
  intro w' hf
  have hl := h.rlow
  exact hv.stay (h.fr.trans hf (fun i hi e => by omega))
end

/-! ### what both tell -/
theorem keepA {w0 w w' : World} {a b c d : Addr} {x y z u : Value} (h : w.cell? a = some x ∧ w.cell? b = some y ∧ w.cell? c = some z ∧ w.cell? d = some u ∧ Fr (fun _ => False) w0 w) (hf : Fr (fun _ => False) w w') : w'.cell? a = some x ∧ w'.cell? b = some y ∧ w'.cell? c = some z ∧ w'.cell? d = some u ∧ Fr (fun _ => False) w0 w' :=
  ⟨cells_stay2 hf h.1, cells_stay2 hf h.2.1, cells_stay2 hf h.2.2.1, cells_stay2 hf h.2.2.2.1, h.2.2.2.2.trans hf (fun _ _ f => f)⟩
theorem lastA {w0 w : World} {a b c d : Addr} {x y z u : Value} (h : w.cell? a = some x ∧ w.cell? b = some y ∧ w.cell? c = some z ∧ w.cell? d = some u ∧ Fr (fun _ => False) w0 w) : Fr (fun _ => False) w0 w := h.2.2.2.2

set_option maxHeartbeats 16000000 in
set_option maxRecDepth 100000 in
theorem alike_c (w : World) (p g bm ml mt q m ub b1 b2 : Nat) (P : PSt) (S : St) (hp : PD w p g bm ml mt P S) (hr : RPD w q m ub b1 b2 P S) (hS : S.Ok) (hP : P.Ok S.n) (k : Int) :
    Calls Tryz.prog 38 #[.pointer (some ⟨p, 0, none⟩), .pointer (some ⟨q, 0, none⟩), .int .i64 k] w fun e w' => e = .returned (.bool true) ∧ Fr (fun _ => False) w w' := by
  have HP := hid hp
  have HR := hid hr
  have HOK := hid hS
  have HPK := hid hP
  have HC := hid (pread_c w p g ml mt bm P S hp.pa hp.da hS hP k)
  obtain ⟨X, hX⟩ : ∃ X, X = P.read S k := ⟨_, rfl⟩
  have HD := hid (fun W (h : RPD W q m ub b1 b2 P S) => show Calls Tryz.prog 74 #[.pointer (some ⟨q, 0, none⟩), .int .i64 k] W fun e w' => e = .returned (.tuple #[.string (bs X.1), .int .i64 X.2]) ∧ Fr (fun _ => False) W w' from hX ▸ rpread_c W q m ub b1 b2 P S h.pa h.ra HOK.out HPK.out k)
  rw [← hX] at HC
  obtain ⟨T, C⟩ := X
  simp only at HC HD
  clear hX hp hr hS hP
  go_enter Tryz.func38, Tryz.ntmps38
  go_wp2_with fail
  refine HC.out.mono ?_
  rintro e w2 ⟨rfl, hf2⟩
  have HF2 := hid hf2
  clear hf2
  go_wp2_with fail
  refine (HD.out _ (HR.out.stay HF2.out)).mono ?_
  rintro e w3 ⟨rfl, hf3⟩
  have HF3 := hid (HF2.out.trans hf3 (fun _ _ f => f))
  clear hf3 HC HD HF2
  go_upto_region 3 with fail
  obtain ⟨wt, hwt⟩ : ∃ wt, wt = w3 := ⟨_, rfl⟩
  rw [← hwt] at HF3 ⊢
  clear hwt
  have HP3 := hid (HP.out.stay HF3.out)
  have HR3 := hid (HR.out.stay HF3.out)
  obtain ⟨rt, hrt⟩ : ∃ rt, rt = P.root := ⟨_, rfl⟩
  obtain ⟨fr, hfr⟩ : ∃ fr : Int, fr = (P.from_ : Int) := ⟨_, rfl⟩
  obtain ⟨gn, hgn⟩ : ∃ gn : Int, gn = (P.gen : Int) := ⟨_, rfl⟩
  obtain ⟨dd, hdd⟩ : ∃ dd, dd = P.dead := ⟨_, rfl⟩
  obtain ⟨ff, hff⟩ : ∃ ff : Int, ff = (P.free : Int) := ⟨_, rfl⟩
  obtain ⟨⟨cap, hq⟩, _⟩ := HR3.out.pa
  have k3 : wt.cell? ⟨q, 3, none⟩ = some (.int .i64 rt) := hrt ▸ cell_at hq 3
  have k4 : wt.cell? ⟨q, 4, none⟩ = some (.int .i64 fr) := hfr ▸ cell_at hq 4
  have k5 : wt.cell? ⟨q, 5, none⟩ = some (.int .i64 gn) := hgn ▸ cell_at hq 5
  have k7 : wt.cell? ⟨q, 7, none⟩ = some (.bool dd) := hdd ▸ cell_at hq 7
  have A1 := hid (fun W (h : Fr (fun _ => False) wt W) => show Calls Tryz.prog 9 #[.pointer (some ⟨p, 0, none⟩)] W fun e w' => e = .returned (.int .i64 rt) ∧ Fr (fun _ => False) W w' from hrt ▸ (root_c W p g ml mt P (HP3.out.pa.stay h)).mono (fun e w'' ⟨h1, h2⟩ => ⟨h1, h2 ▸ Fr.refl _ _⟩))
  have A2 := hid (fun W (h : Fr (fun _ => False) wt W) => show Calls Tryz.prog 10 #[.pointer (some ⟨p, 0, none⟩)] W fun e w' => e = .returned (.int .i64 fr) ∧ Fr (fun _ => False) W w' from hfr ▸ (from_c W p g ml mt P (HP3.out.pa.stay h)).mono (fun e w'' ⟨h1, h2⟩ => ⟨h1, h2 ▸ Fr.refl _ _⟩))
  have A3 := hid (fun W (h : Fr (fun _ => False) wt W) => show Calls Tryz.prog 11 #[.pointer (some ⟨p, 0, none⟩)] W fun e w' => e = .returned (.int .i64 gn) ∧ Fr (fun _ => False) W w' from hgn ▸ (gen_c W p g ml mt P (HP3.out.pa.stay h)).mono (fun e w'' ⟨h1, h2⟩ => ⟨h1, h2 ▸ Fr.refl _ _⟩))
  have A4 := hid (fun W (h : Fr (fun _ => False) wt W) => show Calls Tryz.prog 14 #[.pointer (some ⟨p, 0, none⟩)] W fun e w' => e = .returned (.int .i64 ff) ∧ Fr (fun _ => False) W w' from hff ▸ free_c W p g ml mt P (HP3.out.pa.stay h) HPK.out.p2)
  have A5 := hid (fun W (h : Fr (fun _ => False) wt W) => show Calls Tryz.prog 75 #[.pointer (some ⟨q, 0, none⟩)] W fun e w' => e = .returned (.int .i64 ff) ∧ Fr (fun _ => False) W w' from hff ▸ (rpfree_c W q m ub P (HR3.out.pa.stay h) HPK.out.p2).mono (fun e w'' ⟨h1, h2⟩ => ⟨h1, h2 ▸ Fr.refl _ _⟩))
  have A6 := hid (fun W (h : Fr (fun _ => False) wt W) => show Calls Tryz.prog 76 #[.pointer (some ⟨p, 0, none⟩)] W fun e w' => e = .returned (.bool dd) ∧ Fr (fun _ => False) W w' from hdd ▸ (pdead_c W p g ml mt P (HP3.out.pa.stay h)).mono (fun e w'' ⟨h1, h2⟩ => ⟨h1, h2 ▸ Fr.refl _ _⟩))
  have e1 : (rt == rt) = true := by simp
  have e2 : (fr == fr) = true := by simp
  have e3 : (gn == gn) = true := by simp
  have e4 : (ff == ff) = true := by simp
  have e5 : (C == C) = true := by simp
  have e6 : (dd == dd) = true := by simp
  have hfw : Fr (fun _ => False) wt wt.drew := (Fr.refl _ _).drew
  clear hrt hfr hgn hdd hff hq HP HR HOK HPK
  go_region_held3 (fun w' => w'.cell? ⟨q, 3, none⟩ = some (.int .i64 rt) ∧ w'.cell? ⟨q, 4, none⟩ = some (.int .i64 fr) ∧ w'.cell? ⟨q, 5, none⟩ = some (.int .i64 gn) ∧ w'.cell? ⟨q, 7, none⟩ = some (.bool dd) ∧ Fr (fun _ => False) wt w')
    (first | exact ⟨k3, k4, k5, k7, hfw⟩ | exact keepA (by assumption) (by assumption) | go_keep)
    (first
      | (go_at_call 9; refine (A1.out _ (lastA (by assumption))).mono ?_; rintro e w' ⟨rfl, hf'⟩)
      | (go_at_call 10; refine (A2.out _ (lastA (by assumption))).mono ?_; rintro e w' ⟨rfl, hf'⟩)
      | (go_at_call 11; refine (A3.out _ (lastA (by assumption))).mono ?_; rintro e w' ⟨rfl, hf'⟩)
      | (go_at_call 14; refine (A4.out _ (lastA (by assumption))).mono ?_; rintro e w' ⟨rfl, hf'⟩)
      | (go_at_call 75; refine (A5.out _ (lastA (by assumption))).mono ?_; rintro e w' ⟨rfl, hf'⟩)
      | (go_at_call 76; refine (A6.out _ (lastA (by assumption))).mono ?_; rintro e w' ⟨rfl, hf'⟩))
  all_goals (
    rename_i hS
    go_wp2_with fail
    go_ret
    exact ⟨rfl, HF3.out.trans hS.2.2.2.2 (fun _ _ f => f)⟩)

end Go.Proofs.YtjkhcfdflcndkaaGreat.D
