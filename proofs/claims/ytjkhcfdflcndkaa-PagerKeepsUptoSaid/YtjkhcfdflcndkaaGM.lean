/-
  PagerKeeps. Scripts whose rows of pages are not longer than 2^40.
-/
import Derived.Test.YtjkhcfdflcndkaaGS
import Derived.Test.YtjkhcfdflcndkaaGArW0
import Derived.Deep.RegionHeld3
import Derived.Deep.DeepCutAuto
import Derived.Deep.CutBlock
import Derived.Deep.CutRange
import Derived.BigQuiet
import Derived.Outline
namespace Go.Proofs.Ytjkhcfdflcndkaa.D
open Go.RowKit Go.Maps Go.Shelf
set_option linter.unusedVariables false
set_option linter.unusedSimpArgs false

theorem Texts.isSlice {w : World} {B : Nat} {v : Value} {L : List (List UInt8)} (h : Texts w B v L) : ∃ p n c, v = .slice p n c := by
  have hh : w.ownsRow B 9 1 v L.length (strs' L) := h
  rcases hh.2 with ⟨rfl, _⟩ | ⟨b', cap, cur, rfl, _⟩
  · exact ⟨_, _, _, rfl⟩
  · exact ⟨_, _, _, rfl⟩
def lcells (L : Lst) (vp vb : Value) : Array Value := #[.int .i64 L.root, .int .i64 L.fr, vp, vb]

/-- A state's box. -/
structure BX (W w : World) (b : Nat) (L : Lst) (vp vb : Value) : Prop where
  box : w.heap[b]? = some (.cells (lcells L vp vb) 42)
  pages : IntsV W vp L.pages
  bytes : Texts w W.heap.size vb L.bytes
  low : W.heap.size ≤ b
  len : L.pages.length ≤ 1099511627776
  bnd : ∀ k ∈ L.pages, -9223372036854775808 ≤ k ∧ k ≤ 9223372036854775807

/-- What stands at each call: a pager, the world's box, what counts last. -/
structure KI (W w : World) (p g bm ml mt : Nat) (P : PSt) (S : St) (L : Lst) (x1 xl : Nat) (vp vb : Value) (bx : Array Value) : Prop where
  pw : PW W w p g bm ml mt P S
  wbox : w.heap[x1]? = some (.cells bx 32)
  bx : BX W w xl L vp vb
  low : W.heap.size ≤ x1

section
variable {W w w' : World} {p g bm ml mt : Nat} {P P' : PSt} {S S' : St} {L L' : Lst} {x1 xl b c : Nat} {vp vb vp' vb' : Value} {bx : Array Value}
theorem BX.keep {A : Nat → Prop} (h : BX W w b L vp vb) (hf : Fr A w w') (h1 : ¬ A b) (h2 : ∀ c cs, w.heap[c]? = some (.cells cs 9) → ¬ A c) : BX W w' b L vp vb :=
  ⟨hf.at h.box h1, h.pages, h.bytes.keep hf (fun c hc => by obtain ⟨_, cs, hcs⟩ := h.bytes.block hc; exact h2 c cs hcs), h.low, h.len, h.bnd⟩
theorem BX.stay (h : BX W w b L vp vb) (hf : Fr (fun _ => False) w w') : BX W w' b L vp vb := h.keep hf (fun f => f) (fun _ _ _ f => f)
theorem BX.beside (h : BX W w b L vp vb) (hd : PD w p g bm ml mt P S) (hf : Fr (inPD p g bm ml mt) w w') : BX W w' b L vp vb :=
  h.keep hf (hd.apart h.box (by decide) (by decide)) (fun c cs hc => hd.apart hc (by decide) (by decide))
theorem BX.other (h : BX W w b L vp vb) {cs : Array Value} (hc : w.heap[c]? = some (.cells cs 42)) (hne : b ≠ c) (hf : Fr (· = c) w w') : BX W w' b L vp vb :=
  h.keep hf hne (fun d ds hd e => by
    subst e
    rw [hc] at hd
    injection hd with hd
    injection hd with _ e
    exact absurd e (by decide))
/-- A box is written anew. -/
theorem BX.set (h : BX W w b L vp vb) {A : Nat → Prop} (hf : Fr A w w') (hA : ∀ i, A i → i = b) (hb : w'.heap[b]? = some (.cells (lcells L' vp' vb') 42)) (hp : IntsV W vp' L'.pages) (ht : Texts w W.heap.size vb' L'.bytes) (hl : L'.pages.length ≤ 1099511627776) (hbn : ∀ k ∈ L'.pages, -9223372036854775808 ≤ k ∧ k ≤ 9223372036854775807) : BX W w' b L' vp' vb' :=
  ⟨hb, hp, ht.keep hf (fun c hc e => by
    have e := hA c e
    subst e
    obtain ⟨_, cs, hcs⟩ := ht.block hc
    rw [h.box] at hcs
    injection hcs with hcs
    injection hcs with _ e
    exact absurd e (by decide)), h.low, hl, hbn⟩

theorem PW.other (h : PW W w p g bm ml mt P S) {cs : Array Value} (hc : w.heap[c]? = some (.cells cs 42)) (hlow : W.heap.size ≤ c) (hf : Fr (· = c) w w') : PW W w' p g bm ml mt P S := by
  have ha := h.pd.apart hc (by decide) (by decide)
  unfold inPD at ha
  have hd := h.pd
  refine ⟨⟨⟨hf.at hd.pa.1 (by omega), hd.pa.2.1.keep hf (by omega), hd.pa.2.2.1.keep hf (by omega), hd.pa.2.2.2⟩, hd.da.keep hf (by omega) (by omega) (fun b cur hb e => ?_), hd.n1, hd.n2⟩, h.fr.trans hf (fun i hi e => by omega), h.low⟩
  subst e
  rw [hc] at hb
  injection hb with hb
  injection hb with _ e
  exact absurd e (by decide)

theorem KI.stay (h : KI W w p g bm ml mt P S L x1 xl vp vb bx) (hf : Fr (fun _ => False) w w') : KI W w' p g bm ml mt P S L x1 xl vp vb bx :=
  ⟨h.pw.stay hf, hf.at h.wbox (fun f => f), h.bx.stay hf, h.low⟩
theorem KI.turn (h : KI W w p g bm ml mt P S L x1 xl vp vb bx) (t : PTurn w w' p g bm ml mt P' S') : ∃ bm' ml', KI W w' p g bm' ml' mt P' S' L x1 xl vp vb bx := by
  have hd := h.pw.pd
  obtain ⟨bm', ml', hp⟩ := h.pw.turn t
  refine ⟨bm', ml', hp, hd.other t h.wbox (by decide) (by decide), ?_, h.low⟩
  obtain ⟨_, _, _, _, _, h4⟩ := t
  exact h.bx.beside hd h4
theorem KI.mturn (h : KI W w p g bm ml mt P S L x1 xl vp vb bx) (hD : PD w' p g bm ml mt P' S) (hf : Fr (fun i => i = mt) w w') : KI W w' p g bm ml mt P' S L x1 xl vp vb bx := by
  have hd := h.pw.pd
  have hf2 : Fr (inPD p g bm ml mt) w w' := hf.mono (fun i _ e => by unfold inPD; omega)
  exact ⟨h.pw.mturn hD hf, hf2.at h.wbox (hd.apart h.wbox (by decide) (by decide)), h.bx.beside hd hf2, h.low⟩
theorem KI.dturn (h : KI W w p g bm ml mt P S L x1 xl vp vb bx) {bm' : Nat} (hA : At w' g bm' S') (hb : bm' = bm ∨ w.heap.size ≤ bm') (hf : Fr (fun i => i = g ∨ i = bm) w w') : KI W w' p g bm' ml mt P S' L x1 xl vp vb bx := by
  have hd := h.pw.pd
  have hf2 : Fr (inPD p g bm ml mt) w w' := hf.mono (fun i _ e => by unfold inPD; omega)
  exact ⟨h.pw.dturn hA hb hf, hf2.at h.wbox (hd.apart h.wbox (by decide) (by decide)), h.bx.beside hd hf2, h.low⟩
/-- Another box is written. -/
theorem KI.other (h : KI W w p g bm ml mt P S L x1 xl vp vb bx) {cs : Array Value} (hc : w.heap[c]? = some (.cells cs 42)) (hne : xl ≠ c) (hlow : W.heap.size ≤ c) (hf : Fr (· = c) w w') : KI W w' p g bm ml mt P S L x1 xl vp vb bx :=
  ⟨h.pw.other hc hlow hf, hf.at h.wbox (fun e => by
    have e2 := h.wbox
    rw [e, hc] at e2
    injection e2 with e2
    injection e2 with _ e
    exact absurd e (by decide)), h.bx.other hc hne hf, h.low⟩
/-- Its own box is written. -/
theorem KI.setBox (h : KI W w p g bm ml mt P S L x1 xl vp vb bx) (hf : Fr (· = xl) w w') (hB : BX W w' xl L' vp' vb') : KI W w' p g bm ml mt P S L' x1 xl vp' vb' bx :=
  ⟨h.pw.other h.bx.box h.bx.low hf, hf.at h.wbox (fun e => by
    have e2 := h.wbox
    rw [e, h.bx.box] at e2
    injection e2 with e2
    injection e2 with _ e
    exact absurd e (by decide)), hB, h.low⟩
theorem set4 {T : TypeId} {c0 c1 c2 c3 : Value} (hb : w.heap[b]? = some (.cells #[c0, c1, c2, c3] T)) (d0 d1 d2 d3 : Value) :
    ((((w.setCell ⟨b, 0, none⟩ d0).setCell ⟨b, 1, none⟩ d1).setCell ⟨b, 2, none⟩ d2).setCell ⟨b, 3, none⟩ d3).heap[b]? = some (.cells #[d0, d1, d2, d3] T) ∧
    Fr (· = b) w ((((w.setCell ⟨b, 0, none⟩ d0).setCell ⟨b, 1, none⟩ d1).setCell ⟨b, 2, none⟩ d2).setCell ⟨b, 3, none⟩ d3) := by
  refine ⟨?_, ((((Fr.refl (· = b) w).setCell _ (fun _ => rfl) _).setCell _ (fun _ => rfl) _).setCell _ (fun _ => rfl) _).setCell _ (fun _ => rfl) _⟩
  rw [set_at (set_at (set_at (set_at hb 0 _) 1 _) 2 _) 3 _]
  rfl
end

set_option maxHeartbeats 16000000 in
set_option maxRecDepth 100000 in
theorem keeps_law (V : WV) (hV : WOk V) (A : Option Addr) (cap : Nat) (ops : List OpV) (w : World) (hS : ScriptAt w A ops) (hsz : ∀ (i : Nat) (o : OpV), ops[i]? = some o → o.kept.length * 8 ≤ 140737488355328 ∧ o.pages.length ≤ 1099511627776) :
    Calls Try.prog 4 #[.agg #[.string (bs V.im), .int .i64 V.first, .int .i64 V.count, .int .i64 V.from_, .slice A ops.length cap]] w fun e w' => e = .returned (.bool true) ∧ Fr (fun _ => False) w w' := by
  obtain ⟨im, f, c, n0⟩ := V
  obtain ⟨him, _, ⟨c1, c2⟩, _⟩ := hV
  simp only at him c1 c2 ⊢
  obtain ⟨n, hn⟩ : ∃ n : Nat, (n : Int) = max 1 (min c 12) := ⟨(max 1 (min c 12)).toNat, by omega⟩
  have h1 : 1 ≤ n := by omega
  have h2 : n ≤ 12 := by omega
  have hmin : ∀ w, (Builtin.min_ #[3, 3] 3 #[.int .i64 c, .int .i64 12]).run Try.prog w = .ok (.int .i64 (min c 12)) w := by
    intro w
    rw [run_min_int2]
    congr 2
    split <;> omega
  have hmax : ∀ w, (Builtin.max_ #[3, 3] 3 #[.int .i64 1, .int .i64 (min c 12)]).run Try.prog w = .ok (.int .i64 (n : Int)) w := by
    intro w
    rw [run_max_int2]
    congr 2
    split <;> omega
  obtain ⟨qm, hqm⟩ : ∃ q, q = min c 12 := ⟨_, rfl⟩
  rw [← hqm] at hmin hmax
  clear hqm hn
  obtain ⟨bx, hbx⟩ : ∃ bx : Array Value, bx = #[.string (bs im), .int .i64 f, .int .i64 c, .int .i64 n0, .slice A ops.length cap] := ⟨_, rfl⟩
  obtain ⟨w1, hw1⟩ : ∃ w1, w1 = w.alloc (.cells #[.string (bs im), .int .i64 f, .int .i64 c, .int .i64 n0, .slice A ops.length cap] 32) := ⟨_, rfl⟩
  obtain ⟨x1, hx1⟩ : ∃ x1, x1 = w.heap.size := ⟨_, rfl⟩
  have HF1 := hid (show Fr (fun _ => False) w w1 from hw1 ▸ (Fr.refl _ w).alloc _)
  have hnew : w1.heap[x1]? = some (.cells #[.string (bs im), .int .i64 f, .int .i64 c, .int .i64 n0, .slice A ops.length cap] 32) := by rw [hw1, hx1]; exact (MapKept.heap_alloc w _).1
  have k2 : w1.cell? ⟨x1, 2, none⟩ = some (.int .i64 c) := cell_at hnew 2
  rw [← hbx] at hnew
  have HB1 := hid hnew
  have HBX := hid hbx
  have HX1 := hid hx1
  have HW1 := hid hw1
  rw [hw1, hx1] at k2
  have HSC := hid hS
  have hopl : ops.length ≤ 9223372036854775807 := hS.1
  have HSZ := hid hsz
  obtain ⟨M, hM⟩ : ∃ M : Nat, M = 64 * (2 + 8 * n) := ⟨_, rfl⟩
  have hmk : (Instr.makeSlice 36 (.int .i64 (M : Int)) (.int .i64 (M : Int))).run Try.prog w1 = .ok (.slice (some ⟨w1.heap.size, 0, none⟩) M M) (w1.alloc (.cells (bytesOf (zero M)).toArray 5)) := mkz M (by omega) w1
  have hms := mks M w1
  have HN1 := hid (new_c (w1.alloc (.cells (bytesOf (zero M)).toArray 5)) (zero M) (hM ▸ laid_image (show n ≤ 60 by omega)))
  have hf2 := hid (show Fr (fun _ => False) w (w1.alloc (.cells (bytesOf (zero M)).toArray 5)) from HF1.out.alloc _)
  have hb2 := hid (show (w1.alloc (.cells (bytesOf (zero M)).toArray 5)).heap[x1]? = some (.cells bx 32) from ((Fr.refl (fun _ => False) w1).alloc _).at HB1.out (fun f => f))
  obtain ⟨Z, hZ⟩ : ∃ Z, Z = zero M := ⟨_, rfl⟩
  rw [← hZ] at hmk hms HN1 hf2 hb2
  have hsz1 : w1.heap.size = w.heap.size + 1 := by rw [hw1]; simp
  rw [hsz1, hw1] at hmk hms
  clear hsz1
  have hS0 := hid (show news Z = laidS n by rw [hZ, hM]; rfl)
  have e1 : 64 * (2 + 8 * (n : Int)) = (M : Int) := by omega
  have e2 : (2 + 8 * (n : Int)) * 64 = (M : Int) := by omega
  have hM2 : M ≤ 100000 := by omega
  have HFM := hid (laid_format h1 (show n ≤ 60 by omega))
  have HOK := hid (show (laidS n).Ok from news_ok (laid_image (show n ≤ 60 by omega)))
  have HAL := hid (alive_laid h1 (show n ≤ 60 by omega))
  clear hbx hS hsz hZ hM hnew hw1 hx1
  go_enter Try.func4, Try.ntmps4
  go_wp2_with fail
  rw [← HW1.out]
  refine HN1.out.mono ?_
  rintro e w2 ⟨g, bm, rfl, hA2, hg2, hbm2, hf3⟩
  rw [hS0.out] at hA2
  have HA2 := hid hA2
  have HF2 := hid (hf2.out.trans hf3 (fun _ _ f => f))
  have HB2 := hid (hf3.at hb2.out (fun f => f))
  have HL2 := hid (And.intro (Nat.le_trans hf2.out.size hg2) (Nat.le_trans hf2.out.size hbm2))
  clear hA2 hg2 hbm2 hf3 hmk hms HN1 hf2 e1 e2 k2 hb2
  have HFC := hid (pformat_c w2 g bm (laidS n) HA2.out HOK.out 2 n 1 (by decide) (by decide))
  unfold PFmtC at HFC
  rw [← HX1.out]
  go_wp2_with fail
  refine HFC.out.mono ?_
  rintro e w3 ⟨hf3, h3, _⟩
  rw [HFM.out] at h3
  obtain ⟨p, ml, mt, bm3, rfl, hP3, l1, l2, l3, l4⟩ := h3 (laidP n) rfl
  have HP3 := hid (show PW w w3 p g bm3 ml mt (laidP n) (fmtP (laidS n) 1).1 from by
    have h1 := HL2.out
    have h2 := HF2.out.size
    exact ⟨hP3, HF2.out.trans hf3 (fun i hi e => by omega), by omega⟩)
  have HB3 := hid (show w3.heap[x1]? = some (.cells bx 32) from hf3.at HB2.out (fun e => by
    obtain ⟨c, hc⟩ := HA2.out.isDisk
    obtain ⟨es, cl, hm⟩ := HA2.out.isMap
    have hb := HB2.out
    rcases e with e | e <;> subst e
    · rw [hc] at hb; injection hb with hb; injection hb with _ e; exact absurd e (by decide)
    · rw [hm] at hb; cases hb))
  clear hf3 h3 hP3 l1 l2 l3 l4
  go_wp2_with fail
  obtain ⟨xl, hxl⟩ : ∃ xl, xl = w3.heap.size := ⟨_, rfl⟩
  have hf4 : Fr (fun _ => False) w3 (w3.alloc (.cells #[.int .i64 (-1), .int .i64 1, .slice none 0 0, .slice none 0 0] 42)) := (Fr.refl _ w3).alloc _
  have hlb : (w3.alloc (.cells #[.int .i64 (-1), .int .i64 1, .slice none 0 0, .slice none 0 0] 42)).heap[xl]? = some (.cells (lcells ⟨-1, 1, [], []⟩ (.slice none 0 0) (.slice none 0 0)) 42) := by rw [hxl]; exact (MapKept.heap_alloc w3 _).1
  have HK0 := hid (show KI w _ p g bm3 ml mt (laidP n) (fmtP (laidS n) 1).1 ⟨-1, 1, [], []⟩ x1 xl (.slice none 0 0) (.slice none 0 0) bx from
    ⟨HP3.out.stay hf4, hf4.at HB3.out (fun f => f), ⟨hlb, ⟨none, 0, rfl, by simp, Or.inl rfl⟩, World.ownsRow_nil _ _ _ _, by have := HP3.out.fr.size; omega, by simp, by simp⟩, by have := HX1.out; omega⟩)
  rw [← hxl]
  obtain ⟨w4, hw4⟩ : ∃ w4, w4 = w3.alloc (.cells #[.int .i64 (-1), .int .i64 1, .slice none 0 0, .slice none 0 0] 42) := ⟨_, rfl⟩
  rw [← hw4] at HK0 ⊢
  clear hw4 hxl hf4 hlb HP3 HB3 HFC HA2 HF2 HB2 HL2
  go_loopw [2, 6, 8] (fun v2 v6 v8 wx => ∃ (i p ml mt bm : Nat) (P : PSt) (S : St) (L : Lst) (vp vb : Value), v2 = .bool false ∧ v6 = .pointer (some ⟨p, 0, none⟩) ∧ v8 = .int .i64 i ∧ i ≤ ops.length ∧ Hid (KI w wx p g bm ml mt P S L x1 xl vp vb bx) ∧ Hid (Alive n S P L)) (fun _ _ v _ => ops.length - (intOf v).toNat)
  case atStart => exact ⟨0, p, ml, mt, bm3, _, _, _, _, _, rfl, rfl, rfl, Nat.zero_le _, HK0, HAL⟩
  case round =>
    obtain ⟨i, p, ml, mt, bm, P, S, L, vp, vb, rfl, rfl, rfl, hi, HK, HL⟩ := hrel
    have k4 : wr.cell? ⟨x1, 4, none⟩ = some (.slice A ops.length cap) := by rw [cell_at HK.out.wbox 4, HBX.out]; rfl
    by_cases hend : i = ops.length
    · as_aux_lemma =>
        subst hend
        go_wp2_with fail
        refine (fixed_c _).mono ?_
        rintro e w8 ⟨rfl, hf8⟩
        have HF9 := hid (HK.out.pw.fr.trans hf8 (fun _ _ f => f))
        clear hf8
        go_wp2_with fail
        go_ret
        exact ⟨rfl, HF9.out⟩
    have hi' : i < ops.length := by omega
    have hsc := HSC.out.stay HK.out.pw.fr
    obtain ⟨b0, o0, hA, hp⟩ : ∃ b o, A = some ⟨b, o, none⟩ ∧ ∀ i q, ops[i]? = some q → OpOk wr q ∧
        wr.cell? ⟨b, o + i * 6, none⟩ = some (.int .i64 q.kind) ∧ wr.cell? ⟨b, o + i * 6 + 1, none⟩ = some (.int .i64 q.at_) ∧ wr.cell? ⟨b, o + i * 6 + 2, none⟩ = some (.int .i64 q.n) ∧ wr.cell? ⟨b, o + i * 6 + 3, none⟩ = some (.string (bs q.text)) ∧ wr.cell? ⟨b, o + i * 6 + 4, none⟩ = some q.pv ∧ wr.cell? ⟨b, o + i * 6 + 5, none⟩ = some q.kv := by
      rcases hsc.2 with h | h
      · subst h; simp at hi'
      · exact h
    subst hA
    obtain ⟨⟨kd, ka, kn, tx, pv, kv, pgs, kps⟩, hop⟩ : ∃ q, ops[i]? = some q := ⟨ops[i], by simp [hi']⟩
    obtain ⟨hok, q0, q1, q2, q3, q4, q5⟩ := hp i _ hop
    simp only at q0 q1 q2 q3 q4 q5
    have HOP := hid hok
    have HKL := hid (HSZ.out i _ hop)
    have hokW : OpOk w ⟨kd, ka, kn, tx, pv, kv, pgs, kps⟩ := by
      obtain ⟨b9, o9, h9, hq9⟩ : ∃ b o, (some ⟨b0, o0, none⟩ : Option Addr) = some ⟨b, o, none⟩ ∧ ∀ i q, ops[i]? = some q → OpOk w q := by
        rcases HSC.out.2 with h | ⟨b, o, h, hh⟩
        · subst h; simp at hi'
        · exact ⟨b, o, h, fun i q hq => (hh i q hq).1⟩
      exact hq9 i _ hop
    have HOW := hid hokW
    obtain ⟨pa, pc, epv, _⟩ := id hok.pg
    simp only at epv
    subst epv
    obtain ⟨ka2, kc2, ekv, _⟩ := id hok.kp
    simp only at ekv
    subst ekv
    obtain ⟨vpa, vpc, evp, _⟩ := id HK.out.bx.pages
    obtain ⟨vba, vbn, vbc, evb⟩ := HK.out.bx.bytes.isSlice
    subst evp evb
    obtain ⟨oc, hoc⟩ : ∃ oc : Array Value, oc = #[.int .i64 kd, .int .i64 ka, .int .i64 kn, .string (bs tx), .slice pa pgs.length pc, .slice ka2 kps.length kc2] := ⟨_, rfl⟩
    obtain ⟨w5, hw5⟩ : ∃ w5, w5 = wr.alloc (.cells oc 44) := ⟨_, rfl⟩
    obtain ⟨bo, hbo⟩ : ∃ bo, bo = wr.heap.size := ⟨_, rfl⟩
    have hf5 : Fr (fun _ => False) wr w5 := hw5 ▸ (Fr.refl _ wr).alloc _
    have ho5 : w5.heap[bo]? = some (.cells oc 44) := by rw [hw5, hbo]; exact (MapKept.heap_alloc wr _).1
    have hK5 := HK.out.stay hf5
    have l0 : w5.cell? ⟨xl, 0, none⟩ = some (.int .i64 L.root) := cell_at hK5.bx.box 0
    have l1 : w5.cell? ⟨xl, 1, none⟩ = some (.int .i64 L.fr) := cell_at hK5.bx.box 1
    have l2 : w5.cell? ⟨xl, 2, none⟩ = some (.slice vpa L.pages.length vpc) := cell_at hK5.bx.box 2
    have l3 : w5.cell? ⟨xl, 3, none⟩ = some (.slice vba vbn vbc) := cell_at hK5.bx.box 3
    have hsz5 : w5.heap.size = bo + 1 := by rw [hw5, hbo]; simp
    obtain ⟨w6, hw6⟩ : ∃ w6, w6 = w5.alloc (.cells (lcells L (.slice vpa L.pages.length vpc) (.slice vba vbn vbc)) 42) := ⟨_, rfl⟩
    have hf6 : Fr (fun _ => False) w5 w6 := hw6 ▸ (Fr.refl _ w5).alloc _
    have HO := hid (show w6.heap[bo]? = some (.cells oc 44) from hf6.at ho5 (fun f => f))
    have hn6 := (show w6.heap[bo + 1]? = some (.cells (lcells L (.slice vpa L.pages.length vpc) (.slice vba vbn vbc)) 42) by rw [hw6, ← hsz5]; exact (MapKept.heap_alloc w5 _).1)
    have HK6 := hid (hK5.stay hf6)
    have HN := hid (show BX w w6 (bo + 1) L (.slice vpa L.pages.length vpc) (.slice vba vbn vbc) from
      ⟨hn6, HK.out.bx.pages, HK6.out.bx.bytes, by have := HK6.out.pw.fr.size; have := HK.out.pw.fr.size; omega, HK.out.bx.len, HK.out.bx.bnd⟩)
    have HXB := hid (show xl ≠ bo + 1 ∧ xl ≠ bo from by have := lt_of_at HK.out.bx.box; omega)
    have hk0 : w6.cell? ⟨bo, 0, none⟩ = some (.int .i64 kd) := by rw [cell_at HO.out 0, hoc]; rfl
    have HOC := hid hoc
    have HW5 := hid hw5
    have HW6 := hid hw6
    have HBO := hid hbo
    have e6 : w6 = (wr.alloc (.cells #[.int .i64 kd, .int .i64 ka, .int .i64 kn, .string (bs tx), .slice pa pgs.length pc, .slice ka2 kps.length kc2] 44)).alloc (.cells #[.int .i64 L.root, .int .i64 L.fr, .slice vpa L.pages.length vpc, .slice vba vbn vbc] 42) := by rw [hw6, hw5, hoc]; rfl
    have HE6 := hid e6
    rw [e6, hbo] at hk0
    rw [hw5, hoc] at l0 l1 l2 l3
    clear hp hop hok hsc hend hokW hoc hw5 hw6 hbo hf5 ho5 hK5 hsz5 hf6 e6
    go_upto_block 2 with fail
    rw [← HE6.out, ← HBO.out]
    rw [← HE6.out, ← HBO.out] at hk0
    clear q0 q1 q2 q3 q4 q5 l0 l1 l2 l3 k4
    clear hn6
    go_cut [2] (fun s2 wy => s2 = .bool false ∧ ∃ (bm2 ml2 : Nat) (P2 : PSt) (S2 : St) (L2 N2 : Lst) (lp lb np nb : Value),
      Hid (KI w wy p g bm2 ml2 mt P2 S2 L2 x1 xl lp lb bx) ∧ Hid (BX w wy (bo + 1) N2 np nb) ∧ Hid (Alive n S2 P2 L2 ∨ Gone n S2 L2 N2))
    case first =>
      have HD6 := hid HK6.out.pw.pd
      have o1 : w6.cell? ⟨bo, 1, none⟩ = some (.int .i64 ka) := by rw [cell_at HO.out 1, HOC.out]; rfl
      have o2 : w6.cell? ⟨bo, 2, none⟩ = some (.int .i64 kn) := by rw [cell_at HO.out 2, HOC.out]; rfl
      have o3 : w6.cell? ⟨bo, 3, none⟩ = some (.string (bs tx)) := by rw [cell_at HO.out 3, HOC.out]; rfl
      have o4 : w6.cell? ⟨bo, 4, none⟩ = some (.slice pa pgs.length pc) := by rw [cell_at HO.out 4, HOC.out]; rfl
      have o5 : w6.cell? ⟨bo, 5, none⟩ = some (.slice ka2 kps.length kc2) := by rw [cell_at HO.out 5, HOC.out]; rfl
      have HPG := hid (show IntsV w (.slice pa pgs.length pc) pgs from HOW.out.pg)
      have HKP := hid (show IntsV w6 (.slice ka2 kps.length kc2) kps from HOW.out.kp.stay HK6.out.pw.fr)
      by_cases z0 : kd = 0
      · as_aux_lemma =>
          subst z0
          have HC := hid (palloc_c w6 p g bm ml mt P S HD6.out HL.out.pok)
          go_wp2_with fail
          refine HC.out.mono ?_
          rintro e w7 ⟨rfl, hd7, hf7⟩
          have HK7 := hid (HK6.out.mturn hd7 hf7)
          have HN7 := hid (HN.out.beside HD6.out (hf7.mono (fun i _ e => by unfold inPD; omega)))
          have HA7 := hid (alive_alloc HL.out)
          clear hd7 hf7
          go_wp2_with fail
          go_meet
          exact ⟨rfl, bm, ml, _, S, L, L, _, _, _, _, HK7, HN7, hid (Or.inl HA7.out)⟩
      by_cases z1 : kd = 1
      · as_aux_lemma =>
          subst z1
          have HC := hid (pwrite_c w6 p g bm ml mt P S HD6.out ka tx HL.out.ok HL.out.pok HOP.out.a1 HOP.out.a2 HOP.out.rl)
          have HU := hid (alive_write HL.out ka tx)
          unfold PWriteC at HC
          obtain ⟨X, hX⟩ : ∃ X, X = P.write S ka tx := ⟨_, rfl⟩
          rw [← hX] at HC HU
          clear hX
          go_wp2_with fail
          refine HC.out.mono ?_
          rintro e w7 ⟨rfl, ht7⟩
          obtain ⟨bm7, ml7, hk7⟩ := HK6.out.turn ht7
          have HK7 := hid hk7
          have HN7 := hid (HN.out.beside HD6.out (by obtain ⟨_, _, _, _, _, h4⟩ := ht7; exact h4))
          clear hk7 ht7
          go_wp2_with fail
          go_meet
          exact ⟨rfl, bm7, ml7, _, _, L, L, _, _, _, _, HK7, HN7, HU⟩
      by_cases z3 : kd = 3
      · as_aux_lemma =>
          subst z3
          have HC := hid (pdrop_c w6 p g bm ml mt P S HD6.out)
          go_wp2_with fail
          refine HC.out.mono ?_
          rintro e w7 ⟨rfl, hd7, hf7⟩
          have HK7 := hid (HK6.out.mturn hd7 hf7)
          have HN7 := hid (HN.out.beside HD6.out (hf7.mono (fun i _ e => by unfold inPD; omega)))
          clear hd7 hf7
          go_wp2_with fail
          go_meet
          exact ⟨rfl, bm, ml, _, S, L, L, _, _, _, _, HK7, HN7, hid (Or.inl (alive_drop HL.out))⟩
      by_cases z4 : kd = 4
      · as_aux_lemma =>
          subst z4
          have HLV := hid (live_c w6 p g bm ml mt P S HD6.out HL.out.ok HL.out.pok (.slice pa pgs.length pc) pgs (HPG.out.stay HK6.out.pw.fr) HKL.out.2)
          have HU := hid (alive_commit HL.out ka kn pgs)
          have HCM := hid (fun (W' : World) (h : PD W' p g bm ml mt P S) (hf : Fr (fun _ => False) w W') => pcommit_c W' p g bm ml mt P S h ka kn (.slice pa pgs.length pc) pgs HL.out.ok HL.out.pok (HPG.out.stay hf) HOW.out.pb HOP.out.a1 HOP.out.a2)
          unfold PCommitC at HCM
          obtain ⟨X, hX⟩ : ∃ X, X = P.commit S ka kn pgs := ⟨_, rfl⟩
          rw [← hX] at HU
          simp only [← hX] at HCM
          clear hX o2 o3 o5
          go_wp2_with fail
          refine HLV.out.mono ?_
          rintro e w7 ⟨hf7, hlv1, hlv2⟩
          have HK7 := hid (HK6.out.stay hf7)
          have HN7 := hid (HN.out.stay hf7)
          have HO7 := hid (hf7.at HO.out (fun f => f))
          have HV1 := hid hlv1
          have HV2 := hid hlv2
          have HCM7 := hid (HCM.out w7 HK7.out.pw.pd HK7.out.pw.fr)
          have HHS := hid hf7.size
          clear hf7 hlv1 hlv2 o1 o4
          have o1 : w7.cell? ⟨bo, 1, none⟩ = some (.int .i64 ka) := by rw [cell_at HO7.out 1, HOC.out]; rfl
          have o2 : w7.cell? ⟨bo, 2, none⟩ = some (.int .i64 kn) := by rw [cell_at HO7.out 2, HOC.out]; rfl
          have o4 : w7.cell? ⟨bo, 4, none⟩ = some (.slice pa pgs.length pc) := by rw [cell_at HO7.out 4, HOC.out]; rfl
          have hnotin : ∀ (b : Nat) (v : Value) (Y : List (List UInt8)) (B : Nat), Texts w7 B v Y → v.ownBlock = some b → ¬ inPD p g bm ml mt b := fun b v Y B ht hb => by
            obtain ⟨_, c, hc⟩ := ht.block hb
            exact HK7.out.pw.pd.apart hc (by decide) (by decide)
          have HNI := hid hnotin
          clear hnotin
          rcases HU.out with ⟨u1, u2, u3⟩ | ⟨u1, u2, u3⟩ | ⟨u1, u2, u3⟩
          · obtain ⟨v, rfl, hT⟩ := HV1.out u2
            have HT7 := hid (hT.low (B' := w.heap.size) (by have := HK6.out.pw.fr.size; omega))
            have HU3 := hid u3
            obtain ⟨va, vn, vc, rfl⟩ := hT.isSlice
            rw [u1] at HCM7
            clear u1 u2 u3 hT HU
            go_wp2_with fail
            refine HCM7.out.mono ?_
            rintro e w8 ⟨rfl, ht8⟩
            obtain ⟨bm8, ml8, hk8⟩ := HK7.out.turn ht8
            have HK8 := hid hk8
            have hfr8 : Fr (inPD p g bm ml mt) w7 w8 := by obtain ⟨_, _, _, _, _, h4⟩ := ht8; exact h4
            have HN8 := hid (HN7.out.beside HK7.out.pw.pd hfr8)
            have HT8 := hid (HT7.out.keep hfr8 (fun b hb => HNI.out b _ _ _ HT7.out hb))
            have HO8 := hid (hfr8.at HO7.out (HK7.out.pw.pd.apart HO7.out (by decide) (by decide)))
            clear hk8 ht8 hfr8 o1 o2 o4
            have o1 : w8.cell? ⟨bo, 1, none⟩ = some (.int .i64 ka) := by rw [cell_at HO8.out 1, HOC.out]; rfl
            have o2 : w8.cell? ⟨bo, 2, none⟩ = some (.int .i64 kn) := by rw [cell_at HO8.out 2, HOC.out]; rfl
            have o4 : w8.cell? ⟨bo, 4, none⟩ = some (.slice pa pgs.length pc) := by rw [cell_at HO8.out 4, HOC.out]; rfl
            have n0 : w8.cell? ⟨bo + 1, 0, none⟩ = some (.int .i64 L.root) := cell_at HN8.out.box 0
            have n1 : w8.cell? ⟨bo + 1, 1, none⟩ = some (.int .i64 L.fr) := cell_at HN8.out.box 1
            have n2 : w8.cell? ⟨bo + 1, 2, none⟩ = some (.slice vpa L.pages.length vpc) := cell_at HN8.out.box 2
            have n3 : w8.cell? ⟨bo + 1, 3, none⟩ = some (.slice vba vbn vbc) := cell_at HN8.out.box 3
            have g0 : w8.frozen? ⟨bo + 1, 0, none⟩ = false := frozen_at HN8.out.box 0
            have g1 : w8.frozen? ⟨bo + 1, 1, none⟩ = false := frozen_at HN8.out.box 1
            have g2 : w8.frozen? ⟨bo + 1, 2, none⟩ = false := frozen_at HN8.out.box 2
            have g3 : w8.frozen? ⟨bo + 1, 3, none⟩ = false := frozen_at HN8.out.box 3
            go_upto_region 28 with fail
            obtain ⟨q1, q2⟩ := set4 HN8.out.box (.int .i64 ka) (.int .i64 kn) (.slice pa pgs.length pc) (.slice va vn vc)
            have hK9 := HK8.out.other HN8.out.box HXB.out.1 HN8.out.low q2
            have hN9 := HN8.out.set (L' := ⟨ka, kn, pgs, liveL P S pgs⟩) q2 (fun i e => e) q1 HPG.out HT8.out HKL.out.2 HOW.out.pb
            obtain ⟨w9, hw9⟩ : ∃ w9, w9 = (((w8.setCell ⟨bo + 1, 0, none⟩ (.int .i64 ka)).setCell ⟨bo + 1, 1, none⟩ (.int .i64 kn)).setCell ⟨bo + 1, 2, none⟩ (.slice pa pgs.length pc)).setCell ⟨bo + 1, 3, none⟩ (.slice va vn vc) := ⟨_, rfl⟩
            rw [← hw9] at hK9 hN9 ⊢
            have HK9 := hid hK9
            have HN9 := hid hN9
            clear q1 q2 hK9 hN9 hw9 n0 n1 n2 n3 g0 g1 g2 g3 o1 o2 o4
            have n0 : w9.cell? ⟨bo + 1, 0, none⟩ = some (.int .i64 ka) := cell_at HN9.out.box 0
            have n1 : w9.cell? ⟨bo + 1, 1, none⟩ = some (.int .i64 kn) := cell_at HN9.out.box 1
            have n2 : w9.cell? ⟨bo + 1, 2, none⟩ = some (.slice pa pgs.length pc) := cell_at HN9.out.box 2
            have n3 : w9.cell? ⟨bo + 1, 3, none⟩ = some (.slice va vn vc) := cell_at HN9.out.box 3
            have m0 : w9.cell? ⟨xl, 0, none⟩ = some (.int .i64 L.root) := cell_at HK9.out.bx.box 0
            have m1 : w9.cell? ⟨xl, 1, none⟩ = some (.int .i64 L.fr) := cell_at HK9.out.bx.box 1
            have m2 : w9.cell? ⟨xl, 2, none⟩ = some (.slice vpa L.pages.length vpc) := cell_at HK9.out.bx.box 2
            have m3 : w9.cell? ⟨xl, 3, none⟩ = some (.slice vba vbn vbc) := cell_at HK9.out.bx.box 3
            have h0 : w9.frozen? ⟨xl, 0, none⟩ = false := frozen_at HK9.out.bx.box 0
            have h1' : w9.frozen? ⟨xl, 1, none⟩ = false := frozen_at HK9.out.bx.box 1
            have h2' : w9.frozen? ⟨xl, 2, none⟩ = false := frozen_at HK9.out.bx.box 2
            have h3 : w9.frozen? ⟨xl, 3, none⟩ = false := frozen_at HK9.out.bx.box 3
            go_wp2_with fail
            go_meet
            obtain ⟨r1, r2⟩ := set4 HK9.out.bx.box (.int .i64 ka) (.int .i64 kn) (.slice pa pgs.length pc) (.slice va vn vc)
            have hB10 := HK9.out.bx.set (L' := ⟨ka, kn, pgs, liveL P S pgs⟩) r2 (fun i e => e) r1 HPG.out HN9.out.bytes HKL.out.2 HOW.out.pb
            have hK10 := HK9.out.setBox r2 hB10
            have hN10 := HN9.out.other HK9.out.bx.box (fun e => HXB.out.1 e.symm) r2
            exact ⟨rfl, bm8, ml8, _, _, _, _, _, _, _, _, hid hK10, hid hN10, hid (Or.inl HU3.out)⟩
          · have y0 : (X.2.2 == 0) = false := by simpa using u1
            have y2 : (X.2.2 == 2) = false := by simpa using u2
            have y0' : (X.2.2 != 0) = true := by simpa using u1
            have HU3 := hid u3
            obtain ⟨c, hc⟩ : ∃ c, c = X.2.2 := ⟨_, rfl⟩
            rw [← hc] at HCM7 y0 y2 y0'
            clear u1 u2 u3 HU hc
            cases hlo : liveOk P S pgs with
            | true =>
              obtain ⟨v, rfl, hT⟩ := HV1.out hlo
              obtain ⟨va, vn, vc, rfl⟩ := hT.isSlice
              clear hT hlo
              go_wp2_with fail
              refine HCM7.out.mono ?_
              rintro e w8 ⟨rfl, ht8⟩
              obtain ⟨bm8, ml8, hk8⟩ := HK7.out.turn ht8
              have HK8 := hid hk8
              have hfr8 : Fr (inPD p g bm ml mt) w7 w8 := by obtain ⟨_, _, _, _, _, h4⟩ := ht8; exact h4
              have HN8 := hid (HN7.out.beside HK7.out.pw.pd hfr8)
              clear hk8 ht8 hfr8 o1 o2 o4
              go_wp2_with fail
              go_meet
              exact ⟨rfl, bm8, ml8, _, _, L, L, _, _, _, _, HK8, HN8, hid (Or.inl HU3.out)⟩
            | false =>
              have he := HV2.out hlo
              subst he
              clear hlo
              go_wp2_with fail
              refine HCM7.out.mono ?_
              rintro e w8 ⟨rfl, ht8⟩
              obtain ⟨bm8, ml8, hk8⟩ := HK7.out.turn ht8
              have HK8 := hid hk8
              have hfr8 : Fr (inPD p g bm ml mt) w7 w8 := by obtain ⟨_, _, _, _, _, h4⟩ := ht8; exact h4
              have HN8 := hid (HN7.out.beside HK7.out.pw.pd hfr8)
              clear hk8 ht8 hfr8 o1 o2 o4
              go_wp2_with fail
              go_meet
              exact ⟨rfl, bm8, ml8, _, _, L, L, _, _, _, _, HK8, HN8, hid (Or.inl HU3.out)⟩
          · obtain ⟨v, rfl, hT⟩ := HV1.out u2
            have HT7 := hid (hT.low (B' := w.heap.size) (by have := HK6.out.pw.fr.size; omega))
            have HU3 := hid u3
            obtain ⟨va, vn, vc, rfl⟩ := hT.isSlice
            rw [u1] at HCM7
            clear u1 u2 u3 hT HU
            go_wp2_with fail
            refine HCM7.out.mono ?_
            rintro e w8 ⟨rfl, ht8⟩
            obtain ⟨bm8, ml8, hk8⟩ := HK7.out.turn ht8
            have HK8 := hid hk8
            have hfr8 : Fr (inPD p g bm ml mt) w7 w8 := by obtain ⟨_, _, _, _, _, h4⟩ := ht8; exact h4
            have HN8 := hid (HN7.out.beside HK7.out.pw.pd hfr8)
            have HT8 := hid (HT7.out.keep hfr8 (fun b hb => HNI.out b _ _ _ HT7.out hb))
            have HO8 := hid (hfr8.at HO7.out (HK7.out.pw.pd.apart HO7.out (by decide) (by decide)))
            clear hk8 ht8 hfr8 o1 o2 o4
            have o1 : w8.cell? ⟨bo, 1, none⟩ = some (.int .i64 ka) := by rw [cell_at HO8.out 1, HOC.out]; rfl
            have o2 : w8.cell? ⟨bo, 2, none⟩ = some (.int .i64 kn) := by rw [cell_at HO8.out 2, HOC.out]; rfl
            have o4 : w8.cell? ⟨bo, 4, none⟩ = some (.slice pa pgs.length pc) := by rw [cell_at HO8.out 4, HOC.out]; rfl
            have n0 : w8.cell? ⟨bo + 1, 0, none⟩ = some (.int .i64 L.root) := cell_at HN8.out.box 0
            have n1 : w8.cell? ⟨bo + 1, 1, none⟩ = some (.int .i64 L.fr) := cell_at HN8.out.box 1
            have n2 : w8.cell? ⟨bo + 1, 2, none⟩ = some (.slice vpa L.pages.length vpc) := cell_at HN8.out.box 2
            have n3 : w8.cell? ⟨bo + 1, 3, none⟩ = some (.slice vba vbn vbc) := cell_at HN8.out.box 3
            have g0 : w8.frozen? ⟨bo + 1, 0, none⟩ = false := frozen_at HN8.out.box 0
            have g1 : w8.frozen? ⟨bo + 1, 1, none⟩ = false := frozen_at HN8.out.box 1
            have g2 : w8.frozen? ⟨bo + 1, 2, none⟩ = false := frozen_at HN8.out.box 2
            have g3 : w8.frozen? ⟨bo + 1, 3, none⟩ = false := frozen_at HN8.out.box 3
            go_wp2_with fail
            go_meet
            obtain ⟨q1, q2⟩ := set4 HN8.out.box (.int .i64 ka) (.int .i64 kn) (.slice pa pgs.length pc) (.slice va vn vc)
            have hK9 := HK8.out.other HN8.out.box HXB.out.1 HN8.out.low q2
            have hN9 := HN8.out.set (L' := ⟨ka, kn, pgs, liveL P S pgs⟩) q2 (fun i e => e) q1 HPG.out HT8.out HKL.out.2 HOW.out.pb
            exact ⟨rfl, bm8, ml8, _, _, _, _, _, _, _, _, hid hK9, hid hN9, hid (Or.inr HU3.out)⟩
      by_cases z5 : kd = 5
      · as_aux_lemma =>
          subst z5
          have HC := hid (arm_c w6 g bm S HD6.out.da HL.out.ok kn HOP.out.n1 HOP.out.n2 _ kps HKP.out HKL.out.1)
          have HU := hid (alive_arm HL.out kn HOP.out.n2 kps)
          obtain ⟨X, hX⟩ : ∃ X, X = S.arm kn kps := ⟨_, rfl⟩
          rw [← hX] at HC HU
          clear hX
          go_wp2_with fail
          refine HC.out.mono ?_
          rintro e w7 ⟨rfl, hA7, hf7⟩
          have HK7 := hid (HK6.out.dturn hA7 (Or.inl rfl) hf7)
          have HN7 := hid (HN.out.beside HD6.out (hf7.mono (fun i _ e => by unfold inPD; omega)))
          clear hA7 hf7
          go_wp2_with fail
          go_meet
          exact ⟨rfl, bm, ml, _, _, L, L, _, _, _, _, HK7, HN7, hid (Or.inl HU.out)⟩
      by_cases z6 : kd = 6
      · as_aux_lemma =>
          subst z6
          have HC := hid (crash_c w6 g bm S HD6.out.da HL.out.ok _ kps HKP.out)
          have HU := hid (alive_crash HL.out kps)
          obtain ⟨X, hX⟩ : ∃ X, X = S.crash kps := ⟨_, rfl⟩
          rw [← hX] at HC HU
          clear hX
          go_wp2_with fail
          refine HC.out.mono ?_
          rintro e w7 ⟨rfl, ⟨bm7, hA7, hb7⟩, hf7⟩
          have HK7 := hid (HK6.out.dturn hA7 hb7 hf7)
          have HN7 := hid (HN.out.beside HD6.out (hf7.mono (fun i _ e => by unfold inPD; omega)))
          clear hA7 hb7 hf7
          go_wp2_with fail
          go_meet
          exact ⟨rfl, bm7, ml, _, _, L, L, _, _, _, _, HK7, HN7, hid (Or.inr HU.out)⟩
      · as_aux_lemma =>
          go_wp2_with fail
          go_meet
          exact ⟨rfl, bm, ml, _, S, L, L, _, _, _, _, HK6, HN, hid (Or.inl HL.out)⟩
    case rest =>
      obtain ⟨rfl, bm2, ml2, P2, S2, L2, N2, lp, lb, np, nb, HKy, HNy, HOy⟩ := hcut
      have HDD := hid (dead_c _ g bm2 S2 HKy.out.pw.pd.da)
      have HHL := hid (HK6.out.pw.fr.size)
      obtain ⟨lpa, lpc, elp, _⟩ := id HKy.out.bx.pages
      obtain ⟨lba, lbn, lbc, elb⟩ := HKy.out.bx.bytes.isSlice
      obtain ⟨npa, npc, enp, _⟩ := id HNy.out.pages
      obtain ⟨nba, nbn, nbc, enb⟩ := HNy.out.bytes.isSlice
      subst elp elb enp enb
      have HBN := hid (show bo + 1 ≠ xl from fun e => HXB.out.1 e.symm)
      have hLl : ∀ (W : World) (p' bm' ml' mt' : Nat) (P' : PSt) (S' : St) (X : Lst) (xp xb : Value) (bb : Nat), PW w W p' g bm' ml' mt' P' S' → S'.Ok → P'.Ok S'.n → BX w W bb X xp xb → Calls Try.prog 18 #[.pointer (some ⟨p', 0, none⟩), .agg #[.int .i64 X.root, .int .i64 X.fr, xp, xb]] W fun e w' => e = .returned (.bool (standsP P' S' X)) ∧ Fr (fun _ => False) W w' :=
        fun W p' bm' ml' mt' P' S' X xp xb bb h1 h2 h3 h4 => stands_c W p' g bm' ml' mt' P' S' h1.pd h2 h3 X xp xb (h4.pages.stay h1.fr) (h4.bytes.tv (by
          have := h4.bytes
          have hh : W.ownsRow w.heap.size 9 1 xb X.bytes.length (strs' X.bytes) := this
          rcases hh.2 with ⟨_, h0⟩ | ⟨b', cap', cur', _, _, _, hc1, hc2, _⟩
          · omega
          · unfold maxLen at hc2; omega)) h4.len
      have HST := hid hLl
      clear hLl
      rcases HOy.out with hal | hgn
      · as_aux_lemma =>
          have HAL := hid hal
          have HS1 := hid (HST.out _ _ _ _ _ _ _ _ _ _ _ HKy.out.pw HAL.out.ok HAL.out.pok HKy.out.bx)
          rw [alive_stands hal] at HS1
          rw [hal.sd] at HDD
          have l0 := cell_at HKy.out.bx.box 0
          have l1 := cell_at HKy.out.bx.box 1
          have l2 := cell_at HKy.out.bx.box 2
          have l3 := cell_at HKy.out.bx.box 3
          simp only [lcells] at l0 l1 l2 l3
          clear hal HOy
          go_wp2_with fail
          refine HDD.out.mono ?_
          rintro e w8 ⟨rfl, rfl⟩
          go_wp2_with fail
          refine HS1.out.mono ?_
          rintro e w9 ⟨rfl, hf9⟩
          have HK9 := hid (HKy.out.stay hf9)
          clear hf9 l0 l1 l2 l3
          go_wp2_with fail
          go_roundw
          case measure => simp [intOf]; omega
          case rel => exact ⟨i + 1, p, ml2, mt, bm2, P2, S2, L2, _, _, rfl, rfl, by go_num, by omega, HK9, HAL⟩
      · as_aux_lemma =>
          have HG := hid hgn
          obtain ⟨Q, hop, hqk, hy, hn⟩ := reopen (n := n) h1 (by omega) hgn
          have HQK := hid hqk
          have HY := hid hy
          have HNN := hid hn
          have HOKR := hid (revive_ok hgn.ok)
          rw [hgn.dead] at HDD
          have HRV := hid (show Calls Try.prog 19 #[.pointer (some ⟨g, 0, none⟩)] wc fun e w' => e = .returned (.tuple #[]) ∧ At w' g bm2 S2.revive ∧ Fr (fun i => i = g ∨ i = bm2) wc w' from
            (revive_c _ g bm2 S2 HKy.out.pw.pd.da).mono (fun e w' x => ⟨x.1, x.2.1, x.2.2.mono (fun _ _ e => Or.inl e)⟩))
          have HOP := hid (fun (W : World) (h : At W g bm2 S2.revive) => popen_c W g bm2 S2.revive h HOKR.out.1 2 n (by decide) (by decide))
          unfold POpenC at HOP
          have HOE := hid hop
          clear hgn HOy hop hqk hy hn
          go_wp2_with fail
          refine HDD.out.mono ?_
          rintro e w8 ⟨rfl, rfl⟩
          go_wp2_with fail
          refine HRV.out.mono ?_
          rintro e w9 ⟨rfl, hA9, hf9⟩
          have HK9 := hid (HKy.out.dturn hA9 (Or.inl rfl) hf9)
          have HN9 := hid (HNy.out.beside HKy.out.pw.pd (hf9.mono (fun i _ e => by unfold inPD; omega)))
          have HO9 := hid (HOP.out _ hA9)
          clear hA9 hf9 HOP HRV
          go_wp2_with fail
          refine HO9.out.mono ?_
          rintro e w10 ⟨hf10, h10, _⟩
          obtain ⟨pq, mlq, mtq, rfl, hpd, e1, e2, e3⟩ := h10 Q (by rw [HOE.out])
          have HK10 := hid (show KI w w10 pq g bm2 mlq mtq Q S2.revive L2 x1 xl (.slice lpa L2.pages.length lpc) (.slice lba lbn lbc) bx from by
            have h9 := HK9.out.stay hf10
            have hs := HK9.out.pw.fr.size
            have hlw := HK9.out.pw.low
            exact ⟨⟨hpd, h9.pw.fr, by omega⟩, h9.wbox, h9.bx, h9.low⟩)
          have HN10 := hid (HN9.out.stay hf10)
          clear hf10 h10 hpd e1 e2 e3 HO9
          have HSL := hid (fun (W : World) (hf : Fr (fun _ => False) w10 W) => HST.out W pq bm2 mlq mtq Q S2.revive L2 _ _ xl (HK10.out.stay hf).pw HOKR.out.1 (by rw [HOKR.out.2]; exact HQK.out) (HK10.out.stay hf).bx)
          have HSN := hid (fun (W : World) (hf : Fr (fun _ => False) w10 W) => HST.out W pq bm2 mlq mtq Q S2.revive N2 _ _ (bo + 1) (HK10.out.stay hf).pw HOKR.out.1 (by rw [HOKR.out.2]; exact HQK.out) (HN10.out.stay hf))
          have l0 := cell_at HK10.out.bx.box 0
          have l1 := cell_at HK10.out.bx.box 1
          have l2 := cell_at HK10.out.bx.box 2
          have l3 := cell_at HK10.out.bx.box 3
          simp only [lcells] at l0 l1 l2 l3
          cases hst : standsP Q S2.revive L2 with
          | true =>
            obtain ⟨y1, y2⟩ := HY.out hst
            have HAL := hid y2
            have HLE := hid y1
            simp only [hst] at HSL
            clear hst y1 y2 HSN HY HNN
            go_wp2_with fail
            refine (HSL.out _ (Fr.refl _ _)).mono ?_
            rintro e w11 ⟨rfl, hf11⟩
            have HF11 := hid hf11
            have k0 := cells_stay2 hf11 l0
            have k1 := cells_stay2 hf11 l1
            have k2 := cells_stay2 hf11 l2
            have k3 := cells_stay2 hf11 l3
            clear hf11 l0 l1 l2 l3
            go_wp2_with fail
            refine (HSL.out _ HF11.out).mono ?_
            rintro e w12 ⟨rfl, hf12⟩
            have HK12 := hid ((HK10.out.stay HF11.out).stay hf12)
            clear hf12 k0 k1 k2 k3
            have k2 : w12.cell? ⟨xl, 2, none⟩ = some (.slice lpa L2.pages.length lpc) := cell_at HK12.out.bx.box 2
            have HLV := hid (plive_c w12 pq g bm2 mlq mtq Q S2.revive HK12.out.pw.pd HQK.out.p2 (.slice lpa L2.pages.length lpc) L2.pages (HK12.out.bx.pages.stay HK12.out.pw.fr) HK12.out.bx.bnd)
            rw [HLE.out] at HLV
            go_wp2_with fail
            refine HLV.out.mono ?_
            rintro e w13 ⟨rfl, ht13⟩
            obtain ⟨bm13, ml13, hk13⟩ := HK12.out.turn ht13
            have HK13 := hid hk13
            clear ht13 hk13 k2
            go_wp2_with fail
            go_roundw
            case measure => simp [intOf]; omega
            case rel => exact ⟨i + 1, pq, ml13, mtq, bm13, _, _, L2, _, _, rfl, rfl, by go_num, by omega, HK13, HAL⟩
          | false =>
            obtain ⟨y0, y1, y2⟩ := HNN.out hst
            have HAL := hid y2
            have HLE := hid y1
            simp only [hst] at HSL
            simp only [y0] at HSN
            clear hst y0 y1 y2 HY HNN
            go_wp2_with fail
            refine (HSL.out _ (Fr.refl _ _)).mono ?_
            rintro e w11 ⟨rfl, hf11⟩
            have HF11 := hid hf11
            have HN11 := hid (HN10.out.stay hf11)
            have n0 := cell_at HN11.out.box 0
            have n1 := cell_at HN11.out.box 1
            have n2 := cell_at HN11.out.box 2
            have n3 := cell_at HN11.out.box 3
            simp only [lcells] at n0 n1 n2 n3
            clear hf11
            go_wp2_with fail
            refine (HSN.out _ HF11.out).mono ?_
            rintro e w12 ⟨rfl, hf12⟩
            have HF12 := hid (HF11.out.trans hf12 (fun _ _ f => f))
            clear hf12 n0 n1 n2 n3
            have k0 := cells_stay2 HF12.out l0
            have k1 := cells_stay2 HF12.out l1
            have k2 := cells_stay2 HF12.out l2
            have k3 := cells_stay2 HF12.out l3
            clear l0 l1 l2 l3
            go_wp2_with fail
            refine (HSL.out _ HF12.out).mono ?_
            rintro e w13 ⟨rfl, hf13⟩
            have HK13 := hid ((HK10.out.stay HF12.out).stay hf13)
            have HN13 := hid ((HN10.out.stay HF12.out).stay hf13)
            clear hf13 k0 k1 k2 k3
            have n0 : w13.cell? ⟨bo + 1, 0, none⟩ = some (.int .i64 N2.root) := cell_at HN13.out.box 0
            have n1 : w13.cell? ⟨bo + 1, 1, none⟩ = some (.int .i64 N2.fr) := cell_at HN13.out.box 1
            have n2 : w13.cell? ⟨bo + 1, 2, none⟩ = some (.slice npa N2.pages.length npc) := cell_at HN13.out.box 2
            have n3 : w13.cell? ⟨bo + 1, 3, none⟩ = some (.slice nba nbn nbc) := cell_at HN13.out.box 3
            have m0 : w13.cell? ⟨xl, 0, none⟩ = some (.int .i64 L2.root) := cell_at HK13.out.bx.box 0
            have m1 : w13.cell? ⟨xl, 1, none⟩ = some (.int .i64 L2.fr) := cell_at HK13.out.bx.box 1
            have m2 : w13.cell? ⟨xl, 2, none⟩ = some (.slice lpa L2.pages.length lpc) := cell_at HK13.out.bx.box 2
            have m3 : w13.cell? ⟨xl, 3, none⟩ = some (.slice lba lbn lbc) := cell_at HK13.out.bx.box 3
            have f0 : w13.frozen? ⟨xl, 0, none⟩ = false := frozen_at HK13.out.bx.box 0
            have f1 : w13.frozen? ⟨xl, 1, none⟩ = false := frozen_at HK13.out.bx.box 1
            have f2 : w13.frozen? ⟨xl, 2, none⟩ = false := frozen_at HK13.out.bx.box 2
            have f3 : w13.frozen? ⟨xl, 3, none⟩ = false := frozen_at HK13.out.bx.box 3
            go_upto_region 43 with fail
            obtain ⟨r1, r2⟩ := set4 HK13.out.bx.box (.int .i64 N2.root) (.int .i64 N2.fr) (.slice npa N2.pages.length npc) (.slice nba nbn nbc)
            have hB14 := HK13.out.bx.set (L' := N2) r2 (fun i e => e) r1 HN13.out.pages HN13.out.bytes HN13.out.len HN13.out.bnd
            have hK14 := HK13.out.setBox r2 hB14
            obtain ⟨w14, hw14⟩ : ∃ w14, w14 = (((w13.setCell ⟨xl, 0, none⟩ (.int .i64 N2.root)).setCell ⟨xl, 1, none⟩ (.int .i64 N2.fr)).setCell ⟨xl, 2, none⟩ (.slice npa N2.pages.length npc)).setCell ⟨xl, 3, none⟩ (.slice nba nbn nbc) := ⟨_, rfl⟩
            rw [← hw14] at hK14 ⊢
            have HK14 := hid hK14
            clear r1 r2 hB14 hK14 hw14 n0 n1 n2 n3 m0 m1 m2 m3 f0 f1 f2 f3
            have k2 : w14.cell? ⟨xl, 2, none⟩ = some (.slice npa N2.pages.length npc) := cell_at HK14.out.bx.box 2
            have HLV := hid (plive_c w14 pq g bm2 mlq mtq Q S2.revive HK14.out.pw.pd HQK.out.p2 (.slice npa N2.pages.length npc) N2.pages (HK14.out.bx.pages.stay HK14.out.pw.fr) HK14.out.bx.bnd)
            rw [HLE.out] at HLV
            go_wp2_with fail
            refine HLV.out.mono ?_
            rintro e w15 ⟨rfl, ht15⟩
            obtain ⟨bm15, ml15, hk15⟩ := HK14.out.turn ht15
            have HK15 := hid hk15
            clear ht15 hk15 k2
            go_wp2_with fail
            go_roundw
            case measure => simp [intOf]; omega
            case rel => exact ⟨i + 1, pq, ml15, mtq, bm15, _, _, N2, _, _, rfl, rfl, by go_num, by omega, HK15, HAL⟩

end Go.Proofs.Ytjkhcfdflcndkaa.D
