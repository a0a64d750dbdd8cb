/-
  The tokens one by one: the walk of the iterator. The library's variables are as they were laid.
-/
import Derived.Test.YtbmfmnkfdfdjbaaGreatDoorLI
import Derived.Stop.RegionWithIn
import Derived.StillTailTactics
namespace Go.Proofs.YtbmfmnkfdfdjbaaGreatDoor.D
open Go.RowKit Go.Shelf
set_option linter.unusedVariables false
set_option linter.unusedSimpArgs false
attribute [local go_sem] Oper.semAt_some

def tokCells (L : List Tok) : List Value := L.flatMap fun t => [.int .i64 t.k, .string (bs t.l), .int .i64 (t.a : Int), .int .i64 (t.e : Int)]
theorem tokCells_len (L : List Tok) : (tokCells L).length = L.length * 4 := by
  unfold tokCells
  rw [List.length_flatMap]
  induction L with
  | nil => rfl
  | cons t L ih => simp at ih ⊢; omega
/-- A slice of tokens that a call owns. -/
def Toks (w : World) (B : Nat) (v : Value) (L : List Tok) : Prop := w.ownsRow B 30 4 v L.length (tokCells L)
theorem Toks.keep {A : Nat → Prop} {w w' : World} {B : Nat} {v : Value} {L : List Tok} (h : Toks w B v L) (hf : Fr A w w') (hA : ∀ i, B ≤ i → (∃ c T, w.heap[i]? = some (.cells c T)) → ¬ A i) : Toks w' B v L := by
  refine ⟨h.1, ?_⟩
  rcases h.2 with h0 | ⟨g, cap, cur, h1, h2, h3, h4⟩
  · exact Or.inl h0
  · exact Or.inr ⟨g, cap, cur, h1, h2, hf.at h3 (hA g h2 ⟨_, _, h3⟩), h4⟩

/-- A reading under way: what read's memory is; the tokens that came; where the reader stands. -/
structure RJ (w0 W : World) (b : Nat) (s : List UInt8) (pre : List Tok) (ρ : Nat × Nat × Nat) : Prop where
  hb : b = w0.heap.size
  rd : RdAt W (b + 3) s ρ.1 ρ.2.1 ρ.2.2
  bx : Is W (b + 4) (.pointer (some ⟨b + 3, 0, none⟩)) 58
  l : ∃ v, Is W b v 25 ∧ Toks W (b + 5) v pre
  c1 : Is W (b + 1) (.int .i64 0) 3
  c2 : Is W (b + 2) (.int .i64 0) 26
  fr : Fr (fun i => b ≤ i) w0 W
theorem RJ.keep {A : Nat → Prop} {w0 W W' : World} {b : Nat} {s : List UInt8} {pre : List Tok} {ρ : Nat × Nat × Nat} (h : RJ w0 W b s pre ρ) (hf : Fr A W W')
    (hA : ∀ i, A i → b ≤ i ∧ ∀ c T, W.heap[i]? ≠ some (.cells c T)) : RJ w0 W' b s pre ρ := by
  have hn : ∀ i c T, W.heap[i]? = some (.cells c T) → ¬ A i := fun i c T hi ha => (hA i ha).2 c T hi
  obtain ⟨v, hv, ht⟩ := h.l
  exact ⟨h.hb, h.rd.keep hf (hn _ _ _ h.rd), hf.at h.bx (hn _ _ _ h.bx), ⟨v, hf.at hv (hn _ _ _ hv), ht.keep hf (fun i _ ⟨c, T, hi⟩ => hn i c T hi)⟩, hf.at h.c1 (hn _ _ _ h.c1), hf.at h.c2 (hn _ _ _ h.c2),
    h.fr.trans hf (fun i _ e => (hA i e).1)⟩
theorem RJ.stay {w0 W W' : World} {b : Nat} {s : List UInt8} {pre : List Tok} {ρ : Nat × Nat × Nat} (h : RJ w0 W b s pre ρ) (hf : Fr (fun _ => False) W W') : RJ w0 W' b s pre ρ := h.keep hf (fun i f => f.elim)
theorem RJ.minds {w0 W W' : World} {b : Nat} {s : List UInt8} {pre : List Tok} {ρ : Nat × Nat × Nat} {row : Option Nat} (h : RJ w0 W b s pre ρ) (hg : W.grownBy W' row)
    (hr : ∀ k, row = some k → b ≤ k ∧ ∃ o : Obj, W.heap[k]? = some o ∧ o.isCells = false) : RJ w0 W' b s pre ρ := by
  have hf : Fr (fun i => row = some i) W W' := ⟨hg.os, hg.tape, hg.output, hg.size, fun i hi hn => hg.block i hi (fun e => hn e.symm)⟩
  refine h.keep hf (fun i hi => ?_)
  obtain ⟨h1, o, ho, hc⟩ := hr i hi
  refine ⟨h1, fun c T e => ?_⟩
  rw [ho] at e
  cases e
  cases hc
theorem RJ.read {w0 W W' : World} {b : Nat} {s : List UInt8} {pre : List Tok} {ρ ρ' : Nat × Nat × Nat} (h : RJ w0 W b s pre ρ) (hf : Fr (· = b + 3) W W') (hr : RdAt W' (b + 3) s ρ'.1 ρ'.2.1 ρ'.2.2) : RJ w0 W' b s pre ρ' := by
  obtain ⟨v, hv, ht⟩ := h.l
  exact ⟨h.hb, hr, hf.at h.bx (by omega), ⟨v, hf.at hv (by omega), ht.keep hf (fun i hi _ e => by omega)⟩, hf.at h.c1 (by omega), hf.at h.c2 (by omega), h.fr.trans hf (fun i _ e => by omega)⟩
theorem keeps_reader {W W' : World} {b : Nat} (hf : Fr (· = b + 3) W W') : KeepsFrom (b + 5) W W' := ⟨hf.size, fun k o hk ho _ => hf.at ho (by omega)⟩

/-- What is left of it where it has ended in a panic. -/
structure RK (w0 W : World) (b : Nat) : Prop where
  hb : b = w0.heap.size
  l : ∃ v, Is W b v 25
  c1 : Is W (b + 1) (.int .i64 0) 3
  c2 : Is W (b + 2) (.int .i64 0) 26
  fr : Fr (fun i => b ≤ i) w0 W
theorem RJ.rk {w0 W W' : World} {b : Nat} {s : List UInt8} {pre : List Tok} {ρ : Nat × Nat × Nat} (h : RJ w0 W b s pre ρ) (hf : Fr (· = b + 3) W W') : RK w0 W' b := by
  obtain ⟨v, hv, ht⟩ := h.l
  exact ⟨h.hb, ⟨v, hf.at hv (by omega)⟩, hf.at h.c1 (by omega), hf.at h.c2 (by omega), h.fr.trans hf (fun i _ e => by omega)⟩

def pref (pre : List Tok) : Except (Nat × Int) (List Tok) → Except (Nat × Int) (List Tok)
  | .ok L => .ok (pre ++ L)
  | .error e => .error e

theorem all_in (n : Nat) (W : World) (r : Nat) :
    CallsIn Fence.wide n Tryz.prog 29 #[.pointer (some ⟨r, 0, none⟩)] W fun e w' => e = .returned (.func (.func 38) #[] #[.pointer (some ⟨W.heap.size, 0, none⟩)]) ∧ w' = W.alloc (.cells #[.pointer (some ⟨r, 0, none⟩)] 58) := by
  refine callsIn_of_wp Tryz.func29 rfl trivial ?_ rfl
  simp only [Tryz.ntmps29, List.size_toArray, List.length_cons, List.length_nil, Nat.reduceAdd, Nat.reduceSub, Array.replicate_succ, Array.replicate_zero, List.push_toArray, List.append_toArray, List.nil_append, List.cons_append]
  have hmf : ∀ (fn : Fn) (first cap : Array Value) (w : World), (Instr.makeFunc fn first cap).run Tryz.prog w = .ok (.func fn first cap) w := fun _ _ _ _ => rfl
  gi_wp2
  go_ret
  exact ⟨rfl, rfl⟩

set_option maxHeartbeats 4000000 in
set_option maxRecDepth 100000 in
/-- The tokens of a document, one behind the other. -/
theorem all1_in (n : Nat) (hn : 1 ≤ n) (lp : Nat) (w0 : World) (b : Nat) (s : List UInt8) (hs : s.length ≤ 1000000) (hb2 : 2 < b) (hV : ∀ W, Fr (fun i => b ≤ i) w0 W → Vars W)
    (B : World → Prop) (hBk : ∀ W W', KeepsFrom (b + 5) W W' → B W → B W')
    (hY : ∀ pre ρ (x : Tok) W1, RJ w0 W1 b s pre ρ → B W1 → pre.length < 2048 → YieldAt Fence.wide (n - 1) Tryz.prog lp #[tokV x.k x.l x.a x.e] W1 fun e W' => e = .returned (.bool true) ∧ RJ w0 W' b s (pre ++ [x]) ρ ∧ B W')
    (W : World) (f0 : Nat) (h0 : RJ w0 W b s [] (0, f0, 0)) (hB0 : B W) :
    CallsIn Fence.wide n Tryz.prog 38 #[.func (.yield lp) #[] #[], .pointer (some ⟨b + 4, 0, none⟩)] W fun e W' => B W' ∧
      (((∃ v, e = .returned v) ∧ ∃ pre ρ, RJ w0 W' b s pre ρ ∧ lexAt s 0 0 = .ok pre) ∨ ∃ ch, e = .panicked ch ∧ ∃ j c, RK w0 W' b ∧ lexAt s 0 0 = .error (j, c) ∧ ch = wrongAt j c) := by
  have HH := hid h0
  have HB := hid hB0
  have HV := hid hV
  have HBK := hid hBk
  have HY := hid hY
  have HS := hid hs
  have HB2 := hid hb2
  clear h0 hB0 hV hBk hY
  refine callsIn_of_wp Tryz.func38 rfl trivial ?_ rfl
  simp only [Tryz.ntmps38, List.size_toArray, List.length_cons, List.length_nil, Nat.reduceAdd, Nat.reduceSub, Array.replicate_succ, Array.replicate_zero, List.push_toArray, List.append_toArray, List.nil_append, List.cons_append]
  gi_wp2_with fail
  gi_loopw [] (fun wr => ∃ (pre : List Tok) (i f : Nat), pre.length ≤ 2048 ∧ i ≤ s.length ∧ Hid (RJ w0 wr b s pre (i, f, pre.length)) ∧ Hid (B wr) ∧ Hid (lexAt s 0 0 = pref pre (lexAt s i pre.length))) (fun wr => s.length - atOf (b + 3) wr)
  case atStart => exact ⟨[], 0, f0, by simp, by omega, HH, HB, hid (by cases lexAt s 0 0 <;> rfl)⟩
  case round =>
    obtain ⟨pre, i, f, hpre, hi, HJ, HBw, HL⟩ := hrel
    have hbr : b + 3 < wr.heap.size := lt_of_at HJ.out.rd
    have HVr := hid (HV.out wr HJ.out.fr)
    have kx : wr.cell? ⟨b + 4, 0, none⟩ = some (.pointer (some ⟨b + 3, 0, none⟩)) := cell_at HJ.out.bx 0
    have HM := hid (atOf_rd HJ.out.rd)
    have HIG := hid (ignored_c wr (b + 3) s i f pre.length HJ.out.rd HVr.out (by omega) hi (by omega))
    have HUN := hid (lexAt_un s i pre.length hi)
    have HGL := hid (ign_le (s.drop i))
    obtain ⟨I, hI⟩ : ∃ I, I = ign (s.drop i) := ⟨_, rfl⟩
    rw [← hI] at HUN HGL
    have HI := hid hI
    obtain ⟨N, hN⟩ : ∃ N, N = pre.length := ⟨_, rfl⟩
    rw [← hN] at HJ HL HUN HIG hpre
    have HN := hid hN
    clear hI hN
    gi_wp2_with fail
    refine ⟨trivial, (callsIn_wide.2 HIG.out).mono ?_⟩
    rintro e w1 ⟨hf1, htrue, hfalse⟩
    rw [← HI.out] at htrue hfalse
    obtain ⟨I1, I2⟩ := I
    have HF1 := hid hf1
    have HB1 := hid (HBK.out _ _ (keeps_reader hf1) HBw.out)
    cases I2 with
    | false =>
      as_aux_lemma =>
        have he := hfalse rfl
        subst he
        have HE := hid (show lexAt s 0 0 = .error (i + I1, 50) by rw [HL.out, HUN.out]; rfl)
        have HK := hid (HJ.out.rk HF1.out)
        clear htrue hfalse hf1 kx
        gi_wp2_with fail
        exact ⟨rfl, HB1.out, Or.inr ⟨_, rfl, _, _, HK.out, HE.out, rfl⟩⟩
    | true =>
      obtain ⟨rfl, f', h1⟩ := htrue rfl
      have H1 := hid h1
      have HLI := hid (show i + I1 ≤ s.length by have h := HGL.out; rw [List.length_drop] at h; simp only at h; omega)
      have HUN2 := hid (show lexAt s i N = if i + I1 = s.length then .ok []
        else if 2048 ≤ N then .error (i + I1, 53)
        else match tok1 s (i + I1) with
          | .error c => .error (i + I1, c)
          | .ok (k, l, e) =>
            match lexAt s e (N + 1) with
            | .error x => .error x
            | .ok L => .ok (⟨k, l, i + I1, e⟩ :: L) by have h := HUN.out; rw [if_neg (by simp)] at h; exact h)
      obtain ⟨j, hj⟩ : ∃ j, j = i + I1 := ⟨_, rfl⟩
      have HIJ := hid (show i ≤ j by omega)
      rw [← hj] at H1 HLI HUN2
      have HJ1 := hid (show RJ w0 w1 b s pre (j, f', N) from HJ.out.read HF1.out H1.out)
      clear htrue hfalse hf1 kx h1 HUN HIG HGL HI hj
      have k4 : w1.cell? ⟨b + 4, 0, none⟩ = some (.pointer (some ⟨b + 3, 0, none⟩)) := cell_at HJ1.out.bx 0
      have k1 : w1.cell? ⟨b + 3, 1, none⟩ = some (.int .i64 j) := cell_at H1.out 1
      have k2 : w1.cell? ⟨b + 3, 2, none⟩ = some (.int .i64 f') := cell_at H1.out 2
      have z2 : w1.frozen? ⟨b + 3, 2, none⟩ = false := frozen_at H1.out 2
      have H2 := hid (show RdAt (w1.setCell ⟨b + 3, 2, none⟩ (.int .i64 (j : Int))) (b + 3) s j j N from RdAt.begin H1.out j)
      have HF2 := hid (show Fr (· = b + 3) w1 (w1.setCell ⟨b + 3, 2, none⟩ (.int .i64 (j : Int))).drew from (fr_set1 w1 (b + 3) 2 (.int .i64 (j : Int))).drew)
      gi_wp2_with fail
      gi_region
      obtain ⟨w2, hw2⟩ : ∃ w2, w2 = (w1.setCell ⟨b + 3, 2, none⟩ (.int .i64 (j : Int))).drew := ⟨_, rfl⟩
      rw [← hw2] at HF2 ⊢
      have H3 := hid (show RdAt w2 (b + 3) s j j N from hw2 ▸ H2.out.stay (Fr.refl _ _).drew)
      have HJ2 := hid (show RJ w0 w2 b s pre (j, j, N) from HJ1.out.read HF2.out H3.out)
      have HB2' := hid (HBK.out _ _ (keeps_reader HF2.out) HB1.out)
      have HV2 := hid (HV.out w2 HJ2.out.fr)
      clear hw2 k4 k1 k2 z2 H1 H2 HF2 HJ1 HB1 HF1
      have k4 : w2.cell? ⟨b + 4, 0, none⟩ = some (.pointer (some ⟨b + 3, 0, none⟩)) := cell_at HJ2.out.bx 0
      have k0 : w2.cell? ⟨b + 3, 0, none⟩ = some (.string (bs s)) := cell_at H3.out 0
      have k1 : w2.cell? ⟨b + 3, 1, none⟩ = some (.int .i64 j) := cell_at H3.out 1
      have hz := size_bs s
      gi_wp2_with fail
      by_cases hend : j = s.length
      · as_aux_lemma =>
          have hd : ((j : Int) == (s.length : Int)) = true := by simp [hend]
          have HE := hid (show lexAt s 0 0 = .ok pre by rw [HL.out, HUN2.out, if_pos hend]; simp [pref])
          have hfd : Fr (fun _ => False) w2 w2.drew := (Fr.refl _ w2).drew
          clear hend
          refine wpIn_wide.2 ?_
          go_quiet (fail)
          gi_wp2_with fail
          refine bodyPost_ret (v := .tuple #[]) (results_none rfl _ _ _) rfl ?_
          have hf3 : Fr (fun _ => False) w2 (w2.drewN nq) := fr_drewN
          exact ⟨HBK.out _ _ ⟨hf3.size, fun k o hk ho _ => hf3.at ho (fun f => f)⟩ HB2'.out, Or.inl ⟨⟨_, rfl⟩, pre, _, HJ2.out.stay hf3, HE.out⟩⟩
      · have hd : ((j : Int) == (s.length : Int)) = false := by simp; omega
        have HJL := hid (show j < s.length by have := HLI.out; omega)
        by_cases hmany : 2048 ≤ N
        · as_aux_lemma =>
            have HE := hid (show lexAt s 0 0 = .error (j, 53) by rw [HL.out, HUN2.out, if_neg hend, if_pos hmany]; rfl)
            clear hend
            have hfd : Fr (fun _ => False) w2 w2.drew := (Fr.refl _ w2).drew
            have HT := hid (token_many w2.drew (b + 3) s j j N (H3.out.stay hfd) hmany (by omega))
            refine wpIn_wide.2 ?_
            refine wp_region_held_drew (S := fun w' => w'.cell? ⟨b + 4, 0, none⟩ = some (.pointer (some ⟨b + 3, 0, none⟩)) ∧ w'.cell? ⟨b + 3, 0, none⟩ = some (.string (bs s)) ∧ w'.cell? ⟨b + 3, 1, none⟩ = some (.int .i64 j)) (by kernel_rfl) (by exact ⟨cells_stay2 hfd k4, cells_stay2 hfd k0, cells_stay2 hfd k1⟩) (fun hHeld => ?_)
            refine tkN (i := 0) (d := some 12) (oi := { dst := some 12, op := Op.load 58 (Operand.tmp 1), type := 58, pos := "lex.go:256", after := #[], guard := none }) (v := ?v1) rfl rfl (by kernel_rfl) (by kernel_rfl) (by kernel_rfl) (fun _ _ _ h => h) (Or.inl ⟨by rfl, ?hy1⟩) (by assumption) ?rest1
            case hy1 =>
              intro w hSw
              obtain ⟨s4, s0, s1⟩ := hSw
              go_simp
              first | done | with_reducible rfl
            try simp only [Act.put, List.setIfInBounds_toArray, List.set_cons_zero, List.set_cons_succ]
            refine tkN (i := 1) (d := some 13) (oi := { dst := some 13, op := Op.nilCheck (Operand.tmp 12), type := 0, pos := "lex.go:256", after := #[{ on := 0, ground := Ground.data }], guard := none }) (v := ?v2) rfl rfl (by kernel_rfl) (by kernel_rfl) (by kernel_rfl) (fun _ _ _ h => h) (Or.inl ⟨by rfl, ?hy2⟩) (by assumption) ?rest2
            case hy2 =>
              intro w hSw
              obtain ⟨s4, s0, s1⟩ := hSw
              go_simp
              first | done | with_reducible rfl
            try simp only [Act.put, List.setIfInBounds_toArray, List.set_cons_zero, List.set_cons_succ]
            refine tkN (i := 2) (d := some 14) (oi := { dst := some 14, op := Op.fieldAddr 60 (Operand.tmp 13) 1, type := 0, pos := "lex.go:256", after := #[{ on := 1, ground := Ground.data }], guard := none }) (v := ?v3) rfl rfl (by kernel_rfl) (by kernel_rfl) (by kernel_rfl) (fun _ _ _ h => h) (Or.inl ⟨by rfl, ?hy3⟩) (by assumption) ?rest3
            case hy3 =>
              intro w hSw
              obtain ⟨s4, s0, s1⟩ := hSw
              go_simp
              first | done | with_reducible rfl
            try simp only [Act.put, List.setIfInBounds_toArray, List.set_cons_zero, List.set_cons_succ]
            refine tkN (i := 3) (d := some 15) (oi := { dst := some 15, op := Op.load 3 (Operand.tmp 14), type := 3, pos := "lex.go:256", after := #[{ on := 2, ground := Ground.data }], guard := none }) (v := ?v4) rfl rfl (by kernel_rfl) (by kernel_rfl) (by kernel_rfl) (fun _ _ _ h => h) (Or.inl ⟨by rfl, ?hy4⟩) (by assumption) ?rest4
            case hy4 =>
              intro w hSw
              obtain ⟨s4, s0, s1⟩ := hSw
              go_simp
              first | done | with_reducible rfl
            try simp only [Act.put, List.setIfInBounds_toArray, List.set_cons_zero, List.set_cons_succ]
            refine tkN (i := 4) (d := some 16) (oi := { dst := some 16, op := Op.load 58 (Operand.tmp 1), type := 58, pos := "lex.go:256", after := #[], guard := none }) (v := ?v5) rfl rfl (by kernel_rfl) (by kernel_rfl) (by kernel_rfl) (fun _ _ _ h => h) (Or.inl ⟨by rfl, ?hy5⟩) (by assumption) ?rest5
            case hy5 =>
              intro w hSw
              obtain ⟨s4, s0, s1⟩ := hSw
              go_simp
              first | done | with_reducible rfl
            try simp only [Act.put, List.setIfInBounds_toArray, List.set_cons_zero, List.set_cons_succ]
            refine tkN (i := 5) (d := some 17) (oi := { dst := some 17, op := Op.nilCheck (Operand.tmp 16), type := 0, pos := "lex.go:256", after := #[{ on := 4, ground := Ground.data }], guard := none }) (v := ?v6) rfl rfl (by kernel_rfl) (by kernel_rfl) (by kernel_rfl) (fun _ _ _ h => h) (Or.inl ⟨by rfl, ?hy6⟩) (by assumption) ?rest6
            case hy6 =>
              intro w hSw
              obtain ⟨s4, s0, s1⟩ := hSw
              go_simp
              first | done | with_reducible rfl
            try simp only [Act.put, List.setIfInBounds_toArray, List.set_cons_zero, List.set_cons_succ]
            refine tkN (i := 6) (d := some 18) (oi := { dst := some 18, op := Op.fieldAddr 60 (Operand.tmp 17) 0, type := 0, pos := "lex.go:256", after := #[{ on := 5, ground := Ground.data }], guard := none }) (v := ?v7) rfl rfl (by kernel_rfl) (by kernel_rfl) (by kernel_rfl) (fun _ _ _ h => h) (Or.inl ⟨by rfl, ?hy7⟩) (by assumption) ?rest7
            case hy7 =>
              intro w hSw
              obtain ⟨s4, s0, s1⟩ := hSw
              go_simp
              first | done | with_reducible rfl
            try simp only [Act.put, List.setIfInBounds_toArray, List.set_cons_zero, List.set_cons_succ]
            refine tkN (i := 7) (d := some 19) (oi := { dst := some 19, op := Op.load 9 (Operand.tmp 18), type := 9, pos := "lex.go:256", after := #[{ on := 6, ground := Ground.data }], guard := none }) (v := ?v8) rfl rfl (by kernel_rfl) (by kernel_rfl) (by kernel_rfl) (fun _ _ _ h => h) (Or.inl ⟨by rfl, ?hy8⟩) (by assumption) ?rest8
            case hy8 =>
              intro w hSw
              obtain ⟨s4, s0, s1⟩ := hSw
              go_simp
              first | done | with_reducible rfl
            try simp only [Act.put, List.setIfInBounds_toArray, List.set_cons_zero, List.set_cons_succ]
            refine tkN (i := 8) (d := some 20) (oi := { dst := some 20, op := Op.call { callee := Callee.builtin Builtin.len, args := #[Operand.tmp 19], argTypes := #[9] }, type := 3, pos := "lex.go:256", after := #[{ on := 7, ground := Ground.data }], guard := none }) (v := ?v9) rfl rfl (by kernel_rfl) (by kernel_rfl) (by kernel_rfl) (fun _ _ _ h => h) (Or.inl ⟨by rfl, ?hy9⟩) (by assumption) ?rest9
            case hy9 =>
              intro w hSw
              obtain ⟨s4, s0, s1⟩ := hSw
              go_simp
              first | done | with_reducible rfl
            try simp only [Act.put, List.setIfInBounds_toArray, List.set_cons_zero, List.set_cons_succ]
            refine tkN (i := 9) (d := some 21) (oi := { dst := some 21, op := Op.binOp BinOp.eql 3 (Operand.tmp 15) (Operand.tmp 20) 3, type := 4, pos := "lex.go:256", after := #[{ on := 3, ground := Ground.data }, { on := 8, ground := Ground.data }], guard := none }) (v := ?v10) rfl rfl (by kernel_rfl) (by kernel_rfl) (by kernel_rfl) (fun _ _ _ h => h) (Or.inl ⟨by rfl, ?hy10⟩) (by assumption) ?rest10
            case hy10 =>
              intro w hSw
              obtain ⟨s4, s0, s1⟩ := hSw
              go_simp
              first | done | with_reducible rfl
            try simp only [Act.put, List.setIfInBounds_toArray, List.set_cons_zero, List.set_cons_succ]
            refine tkN (i := 10) (d := some 22) (oi := { dst := some 22, op := Op.move (Operand.tmp 21), type := 4, pos := "lex.go:256", after := #[{ on := 9, ground := Ground.data }], guard := none }) (v := ?v11) rfl rfl (by kernel_rfl) (by kernel_rfl) (by kernel_rfl) (fun _ _ _ h => h) (Or.inl ⟨by rfl, ?hy11⟩) (by assumption) ?rest11
            case hy11 =>
              intro w hSw
              obtain ⟨s4, s0, s1⟩ := hSw
              go_simp
              first | done | with_reducible rfl
            try simp only [Act.put, List.setIfInBounds_toArray, List.set_cons_zero, List.set_cons_succ]
            refine tkN (i := 11) (d := some 23) (oi := { dst := some 23, op := Op.move (Operand.tmp 0), type := 75, pos := "lex.go:256", after := #[{ on := 10, ground := Ground.guard }], guard := some (10, false) }) (v := ?v12) rfl rfl (by kernel_rfl) (by kernel_rfl) (by kernel_rfl) (fun _ _ _ h => h) (Or.inl ⟨by rfl, ?hy12⟩) (by assumption) ?rest12
            case hy12 =>
              intro w hSw
              obtain ⟨s4, s0, s1⟩ := hSw
              go_simp
              first | done | with_reducible rfl
            try simp only [Act.put, List.setIfInBounds_toArray, List.set_cons_zero, List.set_cons_succ]
            refine tkN (i := 12) (d := some 24) (oi := { dst := some 24, op := Op.load 58 (Operand.tmp 1), type := 58, pos := "lex.go:256", after := #[{ on := 10, ground := Ground.guard }], guard := some (10, false) }) (v := ?v13) rfl rfl (by kernel_rfl) (by kernel_rfl) (by kernel_rfl) (fun _ _ _ h => h) (Or.inl ⟨by rfl, ?hy13⟩) (by assumption) ?rest13
            case hy13 =>
              intro w hSw
              obtain ⟨s4, s0, s1⟩ := hSw
              go_simp
              first | done | with_reducible rfl
            try simp only [Act.put, List.setIfInBounds_toArray, List.set_cons_zero, List.set_cons_succ]
            refine wpAnyH_ready (rs := [13]) (by kernel_rfl) (by simp) ?_
            refine AllReadyH.cons (o := { dst := some 25, op := Op.call { callee := Callee.value (Operand.func 40), args := #[Operand.tmp 24], argTypes := #[58] }, type := 30, pos := "lex.go:256", after := #[{ on := 12, ground := Ground.data }, { on := 10, ground := Ground.chain }, { on := 10, ground := Ground.guard }], guard := some (10, false) }) rfl (fun K hK => ?_) AllReadyH.nil
            go_simp
            refine (HT.out).mono ?_
            rintro e3 W3 ⟨rfl, hf3⟩
            have hf4 : Fr (· = b + 3) w2 W3 := fr_no (hfd.trans hf3 (fun _ _ e => e))
            exact ⟨rfl, HBK.out _ _ (keeps_reader hf4) HB2'.out, Or.inr ⟨_, rfl, _, _, HJ2.out.rk hf4, HE.out, rfl⟩⟩
        · cases htk : tok1 s j with
          | error c =>
            as_aux_lemma =>
              have HE := hid (show lexAt s 0 0 = .error (j, c) by rw [HL.out, HUN2.out, if_neg hend, if_neg hmany, htk]; rfl)
              have hN2 : N < 2048 := by omega
              have hfd : Fr (fun _ => False) w2 w2.drew := (Fr.refl _ w2).drew
              have HT := hid (token_c w2.drew (b + 3) s j j N (H3.out.stay hfd) (HV2.out.stay hfd) (by omega) HJL.out hs hN2)
              have HTK := hid htk
              clear htk hend hmany
              refine wpIn_wide.2 ?_
              refine wp_region_held_drew (S := fun w' => w'.cell? ⟨b + 4, 0, none⟩ = some (.pointer (some ⟨b + 3, 0, none⟩)) ∧ w'.cell? ⟨b + 3, 0, none⟩ = some (.string (bs s)) ∧ w'.cell? ⟨b + 3, 1, none⟩ = some (.int .i64 j)) (by kernel_rfl) (by exact ⟨cells_stay2 hfd k4, cells_stay2 hfd k0, cells_stay2 hfd k1⟩) (fun hHeld => ?_)
              refine tkN (i := 0) (d := some 12) (oi := { dst := some 12, op := Op.load 58 (Operand.tmp 1), type := 58, pos := "lex.go:256", after := #[], guard := none }) (v := ?v14) rfl rfl (by kernel_rfl) (by kernel_rfl) (by kernel_rfl) (fun _ _ _ h => h) (Or.inl ⟨by rfl, ?hy14⟩) (by assumption) ?rest14
              case hy14 =>
                intro w hSw
                obtain ⟨s4, s0, s1⟩ := hSw
                go_simp
                first | done | with_reducible rfl
              try simp only [Act.put, List.setIfInBounds_toArray, List.set_cons_zero, List.set_cons_succ]
              refine tkN (i := 1) (d := some 13) (oi := { dst := some 13, op := Op.nilCheck (Operand.tmp 12), type := 0, pos := "lex.go:256", after := #[{ on := 0, ground := Ground.data }], guard := none }) (v := ?v15) rfl rfl (by kernel_rfl) (by kernel_rfl) (by kernel_rfl) (fun _ _ _ h => h) (Or.inl ⟨by rfl, ?hy15⟩) (by assumption) ?rest15
              case hy15 =>
                intro w hSw
                obtain ⟨s4, s0, s1⟩ := hSw
                go_simp
                first | done | with_reducible rfl
              try simp only [Act.put, List.setIfInBounds_toArray, List.set_cons_zero, List.set_cons_succ]
              refine tkN (i := 2) (d := some 14) (oi := { dst := some 14, op := Op.fieldAddr 60 (Operand.tmp 13) 1, type := 0, pos := "lex.go:256", after := #[{ on := 1, ground := Ground.data }], guard := none }) (v := ?v16) rfl rfl (by kernel_rfl) (by kernel_rfl) (by kernel_rfl) (fun _ _ _ h => h) (Or.inl ⟨by rfl, ?hy16⟩) (by assumption) ?rest16
              case hy16 =>
                intro w hSw
                obtain ⟨s4, s0, s1⟩ := hSw
                go_simp
                first | done | with_reducible rfl
              try simp only [Act.put, List.setIfInBounds_toArray, List.set_cons_zero, List.set_cons_succ]
              refine tkN (i := 3) (d := some 15) (oi := { dst := some 15, op := Op.load 3 (Operand.tmp 14), type := 3, pos := "lex.go:256", after := #[{ on := 2, ground := Ground.data }], guard := none }) (v := ?v17) rfl rfl (by kernel_rfl) (by kernel_rfl) (by kernel_rfl) (fun _ _ _ h => h) (Or.inl ⟨by rfl, ?hy17⟩) (by assumption) ?rest17
              case hy17 =>
                intro w hSw
                obtain ⟨s4, s0, s1⟩ := hSw
                go_simp
                first | done | with_reducible rfl
              try simp only [Act.put, List.setIfInBounds_toArray, List.set_cons_zero, List.set_cons_succ]
              refine tkN (i := 4) (d := some 16) (oi := { dst := some 16, op := Op.load 58 (Operand.tmp 1), type := 58, pos := "lex.go:256", after := #[], guard := none }) (v := ?v18) rfl rfl (by kernel_rfl) (by kernel_rfl) (by kernel_rfl) (fun _ _ _ h => h) (Or.inl ⟨by rfl, ?hy18⟩) (by assumption) ?rest18
              case hy18 =>
                intro w hSw
                obtain ⟨s4, s0, s1⟩ := hSw
                go_simp
                first | done | with_reducible rfl
              try simp only [Act.put, List.setIfInBounds_toArray, List.set_cons_zero, List.set_cons_succ]
              refine tkN (i := 5) (d := some 17) (oi := { dst := some 17, op := Op.nilCheck (Operand.tmp 16), type := 0, pos := "lex.go:256", after := #[{ on := 4, ground := Ground.data }], guard := none }) (v := ?v19) rfl rfl (by kernel_rfl) (by kernel_rfl) (by kernel_rfl) (fun _ _ _ h => h) (Or.inl ⟨by rfl, ?hy19⟩) (by assumption) ?rest19
              case hy19 =>
                intro w hSw
                obtain ⟨s4, s0, s1⟩ := hSw
                go_simp
                first | done | with_reducible rfl
              try simp only [Act.put, List.setIfInBounds_toArray, List.set_cons_zero, List.set_cons_succ]
              refine tkN (i := 6) (d := some 18) (oi := { dst := some 18, op := Op.fieldAddr 60 (Operand.tmp 17) 0, type := 0, pos := "lex.go:256", after := #[{ on := 5, ground := Ground.data }], guard := none }) (v := ?v20) rfl rfl (by kernel_rfl) (by kernel_rfl) (by kernel_rfl) (fun _ _ _ h => h) (Or.inl ⟨by rfl, ?hy20⟩) (by assumption) ?rest20
              case hy20 =>
                intro w hSw
                obtain ⟨s4, s0, s1⟩ := hSw
                go_simp
                first | done | with_reducible rfl
              try simp only [Act.put, List.setIfInBounds_toArray, List.set_cons_zero, List.set_cons_succ]
              refine tkN (i := 7) (d := some 19) (oi := { dst := some 19, op := Op.load 9 (Operand.tmp 18), type := 9, pos := "lex.go:256", after := #[{ on := 6, ground := Ground.data }], guard := none }) (v := ?v21) rfl rfl (by kernel_rfl) (by kernel_rfl) (by kernel_rfl) (fun _ _ _ h => h) (Or.inl ⟨by rfl, ?hy21⟩) (by assumption) ?rest21
              case hy21 =>
                intro w hSw
                obtain ⟨s4, s0, s1⟩ := hSw
                go_simp
                first | done | with_reducible rfl
              try simp only [Act.put, List.setIfInBounds_toArray, List.set_cons_zero, List.set_cons_succ]
              refine tkN (i := 8) (d := some 20) (oi := { dst := some 20, op := Op.call { callee := Callee.builtin Builtin.len, args := #[Operand.tmp 19], argTypes := #[9] }, type := 3, pos := "lex.go:256", after := #[{ on := 7, ground := Ground.data }], guard := none }) (v := ?v22) rfl rfl (by kernel_rfl) (by kernel_rfl) (by kernel_rfl) (fun _ _ _ h => h) (Or.inl ⟨by rfl, ?hy22⟩) (by assumption) ?rest22
              case hy22 =>
                intro w hSw
                obtain ⟨s4, s0, s1⟩ := hSw
                go_simp
                first | done | with_reducible rfl
              try simp only [Act.put, List.setIfInBounds_toArray, List.set_cons_zero, List.set_cons_succ]
              refine tkN (i := 9) (d := some 21) (oi := { dst := some 21, op := Op.binOp BinOp.eql 3 (Operand.tmp 15) (Operand.tmp 20) 3, type := 4, pos := "lex.go:256", after := #[{ on := 3, ground := Ground.data }, { on := 8, ground := Ground.data }], guard := none }) (v := ?v23) rfl rfl (by kernel_rfl) (by kernel_rfl) (by kernel_rfl) (fun _ _ _ h => h) (Or.inl ⟨by rfl, ?hy23⟩) (by assumption) ?rest23
              case hy23 =>
                intro w hSw
                obtain ⟨s4, s0, s1⟩ := hSw
                go_simp
                first | done | with_reducible rfl
              try simp only [Act.put, List.setIfInBounds_toArray, List.set_cons_zero, List.set_cons_succ]
              refine tkN (i := 10) (d := some 22) (oi := { dst := some 22, op := Op.move (Operand.tmp 21), type := 4, pos := "lex.go:256", after := #[{ on := 9, ground := Ground.data }], guard := none }) (v := ?v24) rfl rfl (by kernel_rfl) (by kernel_rfl) (by kernel_rfl) (fun _ _ _ h => h) (Or.inl ⟨by rfl, ?hy24⟩) (by assumption) ?rest24
              case hy24 =>
                intro w hSw
                obtain ⟨s4, s0, s1⟩ := hSw
                go_simp
                first | done | with_reducible rfl
              try simp only [Act.put, List.setIfInBounds_toArray, List.set_cons_zero, List.set_cons_succ]
              refine tkN (i := 11) (d := some 23) (oi := { dst := some 23, op := Op.move (Operand.tmp 0), type := 75, pos := "lex.go:256", after := #[{ on := 10, ground := Ground.guard }], guard := some (10, false) }) (v := ?v25) rfl rfl (by kernel_rfl) (by kernel_rfl) (by kernel_rfl) (fun _ _ _ h => h) (Or.inl ⟨by rfl, ?hy25⟩) (by assumption) ?rest25
              case hy25 =>
                intro w hSw
                obtain ⟨s4, s0, s1⟩ := hSw
                go_simp
                first | done | with_reducible rfl
              try simp only [Act.put, List.setIfInBounds_toArray, List.set_cons_zero, List.set_cons_succ]
              refine tkN (i := 12) (d := some 24) (oi := { dst := some 24, op := Op.load 58 (Operand.tmp 1), type := 58, pos := "lex.go:256", after := #[{ on := 10, ground := Ground.guard }], guard := some (10, false) }) (v := ?v26) rfl rfl (by kernel_rfl) (by kernel_rfl) (by kernel_rfl) (fun _ _ _ h => h) (Or.inl ⟨by rfl, ?hy26⟩) (by assumption) ?rest26
              case hy26 =>
                intro w hSw
                obtain ⟨s4, s0, s1⟩ := hSw
                go_simp
                first | done | with_reducible rfl
              try simp only [Act.put, List.setIfInBounds_toArray, List.set_cons_zero, List.set_cons_succ]
              refine wpAnyH_ready (rs := [13]) (by kernel_rfl) (by simp) ?_
              refine AllReadyH.cons (o := { dst := some 25, op := Op.call { callee := Callee.value (Operand.func 40), args := #[Operand.tmp 24], argTypes := #[58] }, type := 30, pos := "lex.go:256", after := #[{ on := 12, ground := Ground.data }, { on := 10, ground := Ground.chain }, { on := 10, ground := Ground.guard }], guard := some (10, false) }) rfl (fun K hK => ?_) AllReadyH.nil
              go_simp
              refine (HT.out).mono ?_
              rintro e3 W3 ⟨hf3, _, hbad⟩
              have he := hbad c HTK.out
              subst he
              have hf4 : Fr (· = b + 3) w2 W3 := (fr_no hfd).trans hf3 (fun _ _ e => e)
              exact ⟨rfl, HBK.out _ _ (keeps_reader hf4) HB2'.out, Or.inr ⟨_, rfl, _, _, HJ2.out.rk hf4, HE.out, rfl⟩⟩
          | ok p =>
            obtain ⟨k, l, e⟩ := p
            have hle := tok1_le HJL.out htk
            have HLE := hid hle
            have HE := hid (show lexAt s 0 0 = pref (pre ++ [⟨k, l, j, e⟩]) (lexAt s e (N + 1)) by
              rw [HL.out, HUN2.out, if_neg hend, if_neg hmany, htk]
              simp only
              cases lexAt s e (N + 1) <;> simp [pref])
            have hN2 : N < 2048 := by omega
            have hfd : Fr (fun _ => False) w2 w2.drew := (Fr.refl _ w2).drew
            have HT := hid (token_c w2.drew (b + 3) s j j N (H3.out.stay hfd) (HV2.out.stay hfd) (by omega) HJL.out hs hN2)
            have HTK := hid htk
            clear hle htk hend hmany hfd
            gi_region_with (first
              | (refine ⟨trivial, ?_⟩; gi_at_call 40; refine (callsIn_wide.2 HT.out).mono ?_; rintro e3 W3 ⟨hf3, hok, _⟩; obtain ⟨rfl, h3⟩ := hok k l e HTK.out; have HJ3 := hid ((HJ2.out.stay (Fr.refl _ w2).drew).read (ρ' := (e, j, N + 1)) hf3 h3); have HB3 := hid (HBK.out _ _ (keeps_reader ((fr_no (Fr.refl (fun _ => False) w2).drew).trans hf3 (fun _ _ e => e))) HB2'.out); obtain ⟨fn, tmps, assign, body, hy, hR⟩ := HY.out pre (e, j, N + 1) ⟨k, l, j, e⟩ W3 HJ3.out HB3.out (by have := HN.out; omega); have HR2 := hid hR; clear hR hf3 hok h3)
              | (refine HR2.out.mono ?_; rintro e4 W4 ⟨rfl, hJ4, hB4⟩))
            all_goals
              have HJ4 := hid hJ4
              have HB4 := hid hB4
              clear hJ4 hB4 hy
              gi_wp2_with fail
              go_roundw
              case measure =>
                have h1 := HM.out
                have h4 := atOf_rd HJ4.out.rd
                have h5 : j < e ∧ e ≤ s.length := HLE.out
                have h6 : i ≤ j := HIJ.out
                simp only at h4
                rw [h1, h4]
                omega
              have h5 : j < e ∧ e ≤ s.length := HLE.out
              have h6 : N = pre.length := HN.out
              exact ⟨_, _, _, _, _, _, _, _, _, _, _, _, _, _, _, _, _, _, _, _, _, _, _, _, _, _, ⟨pre ++ [⟨k, l, j, e⟩], e, j, by simp; omega, h5.2, hid (by have h := HJ4.out; rw [List.length_append, ← h6]; exact h), HB4, hid (by rw [List.length_append, ← h6]; exact HE.out)⟩, rfl⟩

end Go.Proofs.YtbmfmnkfdfdjbaaGreatDoor.D
