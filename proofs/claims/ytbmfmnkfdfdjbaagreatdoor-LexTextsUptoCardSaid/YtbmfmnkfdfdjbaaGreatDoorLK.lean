/-
  read: the walk. The library's variables are as they were laid.
-/
import Derived.Test.YtbmfmnkfdfdjbaaGreatDoorLJ
namespace Go.Proofs.YtbmfmnkfdfdjbaaGreatDoor.D
open Go.RowKit Go.Shelf
set_option linter.unusedVariables false
set_option linter.unusedSimpArgs false
attribute [local go_sem] Oper.semAt_some

theorem wpListIn_append_run {F : Fence} {n : Nat} {P : Program} (w : World) {ops : Array Oper} {rest : List Oper} {o : Oper} {a : Act} {Q : Exit → Act → World → Prop}
    (hg : o.guard = none) (s x : Operand) (t tn : TypeId) (hop : o.op = Op.call { callee := Callee.builtin Builtin.append, args := #[s, x], argTypes := #[t, tn] })
    (vs vx : Value) (hs : a.eval s = vs) (hx : a.eval x = vx) (v' : Value) (w' : World) (hr : (Builtin.append_ #[t, tn] o.type #[vs, vx]).run P w = .ok v' w')
    (h : wpListIn F n P ops Q rest (a.put o.dst v') w') : wpListIn F n P ops Q (o :: rest) a w := by
  refine wpListIn_plain hg fun K hK' => ?_
  unfold Oper.wpIn
  refine ⟨?_, ?_⟩
  · simp [Oper.about, hop, resolve, Target.leads, Sem.run_pure]
  · rw [Oper.semAt_plain F _ _ (by rw [hop]; intro c hc'; cases hc')]
    simp [execOp, hop, resolve, invoke, builtin, hs, hx, hr, Result.andThen]
    exact hK' _ _ h

theorem tokCells_snoc (L : List Tok) (t : Tok) : tokCells (L ++ [t]) = tokCells L ++ [.int .i64 t.k, .string (bs t.l), .int .i64 (t.a : Int), .int .i64 (t.e : Int)] := by
  simp [tokCells]
/-- One more token onto a slice of tokens. -/
theorem append_tok (W : World) (B : Nat) (v : Value) (L : List Tok) (t : Tok) (h : Toks W B v L) (hl : L.length < 100000) (hB : B ≤ W.heap.size) :
    ∃ v' W', (Builtin.append_ #[25, 25] 25 #[v, .slice (some ⟨W.heap.size, 0, none⟩) 1 1]).run Tryz.prog (W.alloc (.cells #[.int .i64 t.k, .string (bs t.l), .int .i64 (t.a : Int), .int .i64 (t.e : Int)] 30)) = .ok v' W' ∧
      Toks W' B v' (L ++ [t]) ∧ Fr (fun i => v.ownBlock = some i) W W' := by
  obtain ⟨i0, hi, hz0, hz1, hz2⟩ := info_parts (show (Tryz.prog.info? 30).map (fun i => (i.zero, i.size, i.bytes)) = some (some (.agg #[.int .i64 0, .string ⟨#[]⟩, .int .i64 0, .int .i64 0]), 4, 40) by kernel_rfl)
  obtain ⟨W1, hW1⟩ : ∃ W1, W1 = W.alloc (.cells #[.int .i64 t.k, .string (bs t.l), .int .i64 (t.a : Int), .int .i64 (t.e : Int)] 30) := ⟨_, rfl⟩
  have hF0 : Fr (fun _ => False) W W1 := hW1 ▸ (Fr.refl _ W).alloc _
  have hG : W1.heap[W.heap.size]? = some (.cells #[.int .i64 t.k, .string (bs t.l), .int .i64 (t.a : Int), .int .i64 (t.e : Int)] 30) := by rw [hW1]; exact Array.getElem?_push_size
  rw [← hW1]
  obtain ⟨v', w2, hrun, hown2, hgr2, hnil⟩ := run_append_own (P := Tryz.prog) W1 B 25 25 30 i0 _ 4 40 Tryz.underlying25 hi hz0 hz1 hz2 rfl (by decide)
    v L.length (tokCells L) (h.keep hF0 (fun _ _ _ f => f)) ⟨W.heap.size, 0, none⟩ 1 1 [.int .i64 t.k, .string (bs t.l), .int .i64 (t.a : Int), .int .i64 (t.e : Int)] rfl (by
      intro j u hu
      have hj : j < 4 := (List.getElem?_eq_some_iff.1 hu).1
      have e1 : (⟨W.heap.size, 0, none⟩ : Addr).add j = ⟨W.heap.size, 0 + j, none⟩ := by unfold Addr.add; split <;> simp_all
      rw [e1, Nat.zero_add, cell_at hG j]
      simpa using hu) (by
      intro u hu
      simp at hu
      rcases hu with rfl | rfl | rfl | rfl <;> rfl) (by unfold maxLen; omega) (by omega) (by have := hF0.size; omega)
  refine ⟨v', w2, hrun, ?_, (fr_no hF0).trans ⟨hgr2.os, hgr2.tape, hgr2.output, hgr2.size, fun i hi hn => hgr2.block i hi (fun e => hn (by simpa using e.symm))⟩ (fun i _ e => e)⟩
  unfold Toks
  rw [tokCells_snoc, List.length_append]
  exact hown2

theorem Toks.own {w : World} {B : Nat} {v : Value} {L : List Tok} (h : Toks w B v L) {i : Nat} (hi : v.ownBlock = some i) : B ≤ i ∧ ∃ c T, w.heap[i]? = some (.cells c T) := by
  rcases h.2 with ⟨rfl, _⟩ | ⟨g, cap, cur, rfl, h2, h3, _⟩
  · cases hi
  · have : g = i := by simpa [Value.ownBlock] using hi
    subst this
    exact ⟨h2, _, _, h3⟩
theorem Toks.form {w : World} {B : Nat} {v : Value} {L : List Tok} (h : Toks w B v L) : ∃ p n c, v = .slice p n c := by
  rcases h.2 with ⟨rfl, _⟩ | ⟨g, cap, cur, rfl, _⟩
  · exact ⟨_, _, _, rfl⟩
  · exact ⟨_, _, _, rfl⟩
def ReadPost (w : World) (s : List UInt8) (x : Ending) (w' : World) : Prop :=
  Fr (fun _ => False) w w' ∧ (∀ L, lexAt s 0 0 = .ok L → ∃ v, x = .returned (.tuple #[v, .int .i64 0, .int .i64 0]) ∧ Toks w' w.heap.size v L) ∧
    (∀ j c, lexAt s 0 0 = .error (j, c) → x = .returned (.tuple #[.slice none 0 0, .int .i64 (j : Nat), .int .i64 c]))

theorem read_results (W : World) (b : Nat) (p : Option Addr) (n c : Nat) (x y : Int) (h2 : Is W b (.slice p n c) 25) (h3 : Is W (b + 1) (.int .i64 x) 3) (h4 : Is W (b + 2) (.int .i64 y) 26) (tmps : Array Value)
    (t2 : tmps.getD 2 undef = .pointer (some ⟨b, 0, none⟩)) (t3 : tmps.getD 3 undef = .pointer (some ⟨b + 1, 0, none⟩)) (t4 : tmps.getD 4 undef = .pointer (some ⟨b + 2, 0, none⟩)) :
    (results Tryz.f21 tmps).run Tryz.prog W = .ok (.tuple #[.slice p n c, .int .i64 x, .int .i64 y]) W := by
  have k2 : W.cell? ⟨b, 0, none⟩ = some (.slice p n c) := cell_at h2 0
  have k3 : W.cell? ⟨b + 1, 0, none⟩ = some (.int .i64 x) := cell_at h3 0
  have k4 : W.cell? ⟨b + 2, 0, none⟩ = some (.int .i64 y) := cell_at h4 0
  simp only [results, Tryz.results21]
  simp only [Array.getD_eq_getD_getElem?] at t2 t3 t4
  simp [Sem.run_bind, Result.andThen, asAddr, t2, t3, t4, k2, k3, k4, go_sem]

set_option maxHeartbeats 4000000 in
set_option maxRecDepth 100000 in
theorem read_c (w : World) (s : List UInt8) (hV : Vars w) (h2 : 2 < w.heap.size) (hs : s.length ≤ 1000000) :
    Calls Tryz.prog 21 #[.string (bs s)] w (ReadPost w s) := by
  obtain ⟨b, hb⟩ : ∃ b, b = w.heap.size := ⟨_, rfl⟩
  obtain ⟨W0, hW0⟩ : ∃ W0, W0 = ((((w.alloc (.cells #[.slice none 0 0] 25)).alloc (.cells #[.int .i64 0] 3)).alloc (.cells #[.int .i64 0] 26)).alloc (.cells #[.string (bs s), .int .i64 0, .int .i64 0, .int .i64 0] 60)).alloc (.cells #[.pointer (some ⟨b + 3, 0, none⟩)] 58) := ⟨_, rfl⟩
  have HW0 := hid hW0
  have HBE := hid hb
  refine (callsIn_wide (n := 9)).1 ?_
  refine callsIn_of_wp_marks Tryz.func21 rfl trivial ?_ rfl
  simp only [Tryz.ntmps21, List.size_toArray, List.length_cons, List.length_nil, Nat.reduceAdd, Nat.reduceSub, Array.replicate_succ, Array.replicate_zero, List.push_toArray, List.append_toArray, List.nil_append, List.cons_append]
  have hmf : ∀ (fn : Fn) (first cap : Array Value) (w : World), (Instr.makeFunc fn first cap).run Tryz.prog w = .ok (.func fn first cap) w := fun _ _ _ _ => rfl
  have HA := hid (fun (W : World) (r : Nat) => all_in 8 W r)
  clear hW0 hb
  gi_wp2_with (first
    | (refine ⟨trivial, ?_⟩; gi_at_call 29; refine (HA.out _ _).mono ?_; rintro e w' ⟨rfl, rfl⟩))
  simp only [Nat.add_assoc, Nat.reduceAdd]
  rw [← HBE.out]
  rw [← HW0.out]
  have hz0 : W0.heap.size = b + 5 := by rw [HW0.out]; simp [HBE.out]
  have hJ0 : RJ w W0 b s [] (0, 0, 0) := by
    have e1 : ∀ (W : World) (o : Obj) (k : Nat), k ≠ W.heap.size → (W.alloc o).heap[k]? = W.heap[k]? := fun W o k h => by
      show (W.heap.push o)[k]? = _
      rw [Array.getElem?_push, if_neg h]
    have e2 : ∀ (W : World) (o : Obj) (k : Nat), k = W.heap.size → (W.alloc o).heap[k]? = some o := fun W o k h => by
      show (W.heap.push o)[k]? = _
      rw [Array.getElem?_push, if_pos h]
    refine ⟨HBE.out, ?_, ?_, ⟨.slice none 0 0, ?_, World.ownsRow_nil _ _ _ _⟩, ?_, ?_, ?_⟩
    · rw [HW0.out]
      refine (e1 _ _ _ ?_).trans (e2 _ _ _ ?_)
      all_goals
        try simp only [World.size_alloc]
        have := HBE.out
        omega
    · rw [HW0.out]
      refine e2 _ _ _ ?_
      all_goals
        try simp only [World.size_alloc]
        have := HBE.out
        omega
    · rw [HW0.out]
      refine (e1 _ _ _ ?_).trans ((e1 _ _ _ ?_).trans ((e1 _ _ _ ?_).trans ((e1 _ _ _ ?_).trans (e2 _ _ _ ?_))))
      all_goals
        try simp only [World.size_alloc]
        have := HBE.out
        omega
    · rw [HW0.out]
      refine (e1 _ _ _ ?_).trans ((e1 _ _ _ ?_).trans ((e1 _ _ _ ?_).trans (e2 _ _ _ ?_)))
      all_goals
        try simp only [World.size_alloc]
        have := HBE.out
        omega
    · rw [HW0.out]
      refine (e1 _ _ _ ?_).trans ((e1 _ _ _ ?_).trans (e2 _ _ _ ?_))
      all_goals
        try simp only [World.size_alloc]
        have := HBE.out
        omega
    · rw [HW0.out]
      exact (((((Fr.refl _ w).alloc _).alloc _).alloc _).alloc _).alloc _
  have HZ0 := hid hz0
  have HJ0 := hid hJ0
  have HV := hid hV
  have H2 := hid h2
  have HS := hid hs
  clear hz0 hJ0 hV h2
  refine range_with (α := Tok) (ρ := Nat × Nat × Nat) (encs := fun x => #[.agg #[.int .i64 x.k, .string (bs x.l), .int .i64 (x.a : Int), .int .i64 (x.e : Int)]]) rfl (by omega) (gf := 38) (lb := #[.pointer (some ⟨b + 4, 0, none⟩)]) rfl trivial (enters_of Tryz.func38 (by kernel_rfl) rfl) (fun _ => rfl)
    (fun pre ρ W => RJ w W b s pre ρ) (fun pre ρ x => pre.length < 2048) (fun W => ∃ pre ρ, RJ w W b s pre ρ ∧ lexAt s 0 0 = .ok pre) (fun ch W => ∃ j c, RK w W b ∧ lexAt s 0 0 = .error (j, c) ∧ ch = wrongAt j c) (0, 0, 0) ?minds ?mindsD HJ0.out
    (fun pre ρ x a' W => ∃ g, b + 5 ≤ g ∧ RJ w W b s pre ρ ∧ TAt W g x.k x.l x.a x.e ∧ a' = { tmps := #[.string (bs s), undef, .pointer (some ⟨b, 0, none⟩), .pointer (some ⟨b + 1, 0, none⟩), .pointer (some ⟨b + 2, 0, none⟩), .pointer (some ⟨b + 3, 0, none⟩), .pointer (some ⟨g, 0, none⟩), .func (.func 28) #[] #[.pointer (some ⟨b, 0, none⟩), .pointer (some ⟨b + 1, 0, none⟩), .pointer (some ⟨b + 2, 0, none⟩)], .string (bs s), .agg #[.string (bs s), .int .i64 0, .int .i64 0, .int .i64 0], .pointer (some ⟨b + 3, 0, none⟩), .pointer (some ⟨b + 3, 0, none⟩), .func (.func 38) #[] #[.pointer (some ⟨b + 4, 0, none⟩)], .agg #[.int .i64 x.k, .string (bs x.l), .int .i64 (x.a : Int), .int .i64 (x.e : Int)], undef, undef, undef, undef, undef], defers := [] })
    ?mindsA ?assign ?body ?iter ?done ?pan
  case minds => exact fun pre ρ W W' row h hg hr => h.minds hg (fun k e => ⟨by have := (hr k e).1; have := HZ0.out; omega, (hr k e).2⟩)
  case mindsD => exact fun _ _ W W' row ⟨pre, ρ, h, hl⟩ hg hr => ⟨pre, ρ, h.minds hg (fun k e => ⟨by have := (hr k e).1; have := HZ0.out; omega, (hr k e).2⟩), hl⟩
  case mindsA =>
    rintro x a' pre ρ W W' row ⟨g, hg1, h, ht, rfl⟩ hg hr
    refine ⟨g, hg1, h.minds hg (fun k e => ⟨by have := (hr k e).1; have := HZ0.out; omega, (hr k e).2⟩), ?_, rfl⟩
    have hf : Fr (fun i => row = some i) W W' := ⟨hg.os, hg.tape, hg.output, hg.size, fun i hi hn => hg.block i hi (fun e => hn e.symm)⟩
    refine hf.at ht (fun e => ?_)
    obtain ⟨_, o, ho, hc⟩ := hr g e
    rw [ht] at ho
    cases ho
    cases hc
  case assign =>
    intro l pre ρ x W K hJ hK
    obtain ⟨g, hg⟩ : ∃ g, g = W.heap.size := ⟨_, rfl⟩
    have hbg : b + 4 < g := hg ▸ lt_of_at hJ.bx
    obtain ⟨W1, hW1⟩ : ∃ W1, W1 = W.alloc (.cells #[.int .i64 x.k, .string (bs x.l), .int .i64 (x.a : Int), .int .i64 (x.e : Int)] 30) := ⟨_, rfl⟩
    have hf : Fr (fun _ => False) W W1 := hW1 ▸ (Fr.refl _ W).alloc _
    have hT : TAt W1 g x.k x.l x.a x.e := by rw [hW1, hg]; exact Array.getElem?_push_size
    have HK := hid (hK { tmps := #[.string (bs s), undef, .pointer (some ⟨b, 0, none⟩), .pointer (some ⟨b + 1, 0, none⟩), .pointer (some ⟨b + 2, 0, none⟩), .pointer (some ⟨b + 3, 0, none⟩), .pointer (some ⟨g, 0, none⟩), .func (.func 28) #[] #[.pointer (some ⟨b, 0, none⟩), .pointer (some ⟨b + 1, 0, none⟩), .pointer (some ⟨b + 2, 0, none⟩)], .string (bs s), .agg #[.string (bs s), .int .i64 0, .int .i64 0, .int .i64 0], .pointer (some ⟨b + 3, 0, none⟩), .pointer (some ⟨b + 3, 0, none⟩), .func (.func 38) #[] #[.pointer (some ⟨b + 4, 0, none⟩)], .agg #[.int .i64 x.k, .string (bs x.l), .int .i64 (x.a : Int), .int .i64 (x.e : Int)], undef, undef, undef, undef, undef], defers := [] } W1 ⟨hf.size, fun k o hk ho _ => hf.at ho (fun f => f)⟩ ⟨g, by omega, hJ.stay hf, hT, rfl⟩)
    clear hK hJ
    have HG := hid hg
    have HW1 := hid hW1
    clear hg hW1 hf hT
    gi_wp2
    rw [← HG.out]
    rw [← HW1.out]
    exact HK.out
  case body =>
    rintro l pre ρ x a' W ⟨g, hg, hJ, hT, rfl⟩ hlen
    obtain ⟨v, hv, ht⟩ := hJ.l
    have hsz : b + 5 ≤ W.heap.size := by have := lt_of_at hJ.bx; omega
    obtain ⟨v', W', hap, ht', hfa⟩ := append_tok W (b + 5) v pre x ht (by omega) hsz
    have hne : ¬ v.ownBlock = some b := fun e => by have := (ht.own e).1; omega
    have hv2 : Is W' b v 25 := hfa.at hv hne
    have k0 : W.cell? ⟨b, 0, none⟩ = some v := cell_at hv 0
    have t0 : W.cell? ⟨g, 0, none⟩ = some (.int .i64 x.k) := cell_at hT 0
    have t1 : W.cell? ⟨g, 1, none⟩ = some (.string (bs x.l)) := cell_at hT 1
    have t2 : W.cell? ⟨g, 2, none⟩ = some (.int .i64 (x.a : Int)) := cell_at hT 2
    have t3 : W.cell? ⟨g, 3, none⟩ = some (.int .i64 (x.e : Int)) := cell_at hT 3
    have k1 : W'.cell? ⟨b, 0, none⟩ = some v := cell_at hv2 0
    have z1 : W'.frozen? ⟨b, 0, none⟩ = false := frozen_at hv2 0
    have hfs := fr_set1 W' b 0 v'
    obtain ⟨vp, vn, vc, hvf⟩ := ht'.form
    obtain ⟨up, un, uc, huf⟩ := ht.form
    have hkeep : KeepsFrom (b + 5) W (W'.setCell ⟨b, 0, none⟩ v') := by
      refine ⟨Nat.le_trans hfa.size hfs.size, fun k o hk ho hc => hfs.at (hfa.at ho (fun e => ?_)) (by omega)⟩
      obtain ⟨_, c, T, h2⟩ := ht.own e
      rw [ho] at h2
      cases h2
      cases hc
    have hRJ : RJ w (W'.setCell ⟨b, 0, none⟩ v') b s (pre ++ [x]) ρ := by
      have hn : ∀ i, i ≤ b + 4 → ¬ v.ownBlock = some i := fun i hi e => by have := (ht.own e).1; omega
      refine ⟨hJ.hb, hfs.at (hfa.at hJ.rd (hn _ (by omega))) (by omega), hfs.at (hfa.at hJ.bx (hn _ (by omega))) (by omega), ⟨v', set_at hv2 0 _, ht'.keep hfs (fun i hi _ e => by omega)⟩, hfs.at (hfa.at hJ.c1 (hn _ (by omega))) (by omega), hfs.at (hfa.at hJ.c2 (hn _ (by omega))) (by omega),
        (hJ.fr.trans hfa (fun i _ e => by have := (ht.own e).1; omega)).trans hfs (fun i _ e => by omega)⟩
    have HK := hid hkeep
    have HRJ := hid hRJ
    have HAP := hid hap
    clear hkeep hRJ hap hfs hfa hJ hv hv2 ht ht' hT hne
    subst hvf huf
    gi_wp2_with (gi_at_builtin; refine wpListIn_append_run _ rfl _ _ _ _ rfl _ _ rfl rfl _ _ HAP.out ?_)
    exact ⟨by rw [HZ0.out]; exact HK.out, HRJ.out⟩
  case iter =>
    intro l B W hBk hY hJ0 hB0
    have hfw : ∀ W, Fr (fun i => b ≤ i) w W → Vars W := fun W hf => HV.out.keep hf (fun i hi e => by have := HBE.out; have := H2.out; omega)
    exact all1_in (9 - 1) (by omega) l w b s hs (by have := HBE.out; have := H2.out; omega) hfw B (fun W W' hk hB => hBk W W' (by rw [HZ0.out]; exact hk) hB) (fun pre ρ x W1 h1 hb hlen => hY pre ρ x W1 h1 hb hlen) W 0 hJ0 hB0
  case done =>
    rintro D W hD ⟨pre, ρ, hJ, hL⟩ hK
    obtain ⟨v, hv, ht⟩ := hJ.l
    have k0 : W.cell? ⟨b, 0, none⟩ = some v := cell_at hv 0
    have z0 : W.frozen? ⟨b, 0, none⟩ = false := frozen_at hv 0
    have k1 : W.cell? ⟨b + 1, 0, none⟩ = some (.int .i64 0) := cell_at hJ.c1 0
    have z1 : W.frozen? ⟨b + 1, 0, none⟩ = false := frozen_at hJ.c1 0
    have k2 : W.cell? ⟨b + 2, 0, none⟩ = some (.int .i64 0) := cell_at hJ.c2 0
    have z2 : W.frozen? ⟨b + 2, 0, none⟩ = false := frozen_at hJ.c2 0
    obtain ⟨up, un, uc, huf⟩ := ht.form
    subst huf
    have HJ := hid hJ
    have HK := hid hK
    have HL := hid hL
    have HD := hid hD
    have HT := hid ht
    have HVI := hid hv
    clear hJ hK hL hD ht hv
    gi_wp2_with fail
    obtain ⟨W3, hW3⟩ : ∃ W3, W3 = ((W.setCell ⟨b, 0, none⟩ (.slice up un uc)).setCell ⟨b + 1, 0, none⟩ (.int .i64 0)).setCell ⟨b + 2, 0, none⟩ (.int .i64 0) := ⟨_, rfl⟩
    rw [← hW3]
    have f1 := fr_set1 W b 0 (.slice up un uc)
    have f2 := fr_set1 (W.setCell ⟨b, 0, none⟩ (.slice up un uc)) (b + 1) 0 (.int .i64 0)
    have f3 := fr_set1 ((W.setCell ⟨b, 0, none⟩ (.slice up un uc)).setCell ⟨b + 1, 0, none⟩ (.int .i64 0)) (b + 2) 0 (.int .i64 0)
    have i2 : Is W3 b (.slice up un uc) 25 := hW3 ▸ f3.at (f2.at (set_at HVI.out 0 _) (by omega)) (by omega)
    have i3 : Is W3 (b + 1) (.int .i64 0) 3 := hW3 ▸ f3.at (set_at (f1.at HJ.out.c1 (by omega)) 0 _) (by omega)
    have i4 : Is W3 (b + 2) (.int .i64 0) 26 := hW3 ▸ set_at (f2.at (f1.at HJ.out.c2 (by omega)) (by omega)) 0 _
    have hfr : Fr (fun i => i = b ∨ i = b + 1 ∨ i = b + 2) W W3 := hW3 ▸ ((f1.mono (fun _ _ e => Or.inl e)).trans f2 (fun _ _ e => Or.inr (Or.inl e))).trans f3 (fun _ _ e => Or.inr (Or.inr e))
    have hD5 : b + 5 ≤ D := by have := HD.out; have := HZ0.out; omega
    have hk3 : W3.heap[D]? = some (.deferred (some [])) := hfr.at HK.out (by omega)
    have ht3 : Toks W3 (b + 5) (.slice up un uc) pre := HT.out.keep hfr (fun i hi _ e => by omega)
    have hf3 : Fr (fun i => b ≤ i) w W3 := HJ.out.fr.trans hfr (fun i _ e => by omega)
    clear hW3 f1 f2 f3 k0 z0 k1 z1 k2 z2
    refine ⟨by simp, .inl ⟨_, _, rfl, run_takeDeferred hk3, ?_⟩⟩
    obtain ⟨W4, hW4⟩ : ∃ W4, W4 = W3.putObj D (.deferred none) := ⟨_, rfl⟩
    rw [← hW4]
    have f4 : Fr (fun i => i = D) W3 W4 := hW4 ▸ ⟨rfl, rfl, rfl, by simp, fun k _ hk => World.putObj_heap_other hk⟩
    refine ⟨by simp, .inr ⟨fun _ => by omega, _, _, 28, #[.pointer (some ⟨b, 0, none⟩), .pointer (some ⟨b + 1, 0, none⟩), .pointer (some ⟨b + 2, 0, none⟩)], rfl, by simp [go_sem], (fun _ _ => trivial), (catch_idle _ W4 _ _ _).mono ?_⟩⟩
    rintro e u' w9 ⟨rfl, rfl, f9⟩
    have g2 := f9.at (f4.at i2 (by omega)) (fun f => f)
    have g3 := f9.at (f4.at i3 (by omega)) (fun f => f)
    have g4 := f9.at (f4.at i4 (by omega)) (fun f => f)
    have gt : Toks w9 (b + 5) (.slice up un uc) pre := (ht3.keep f4 (fun i hi hc e => by
      obtain ⟨cc, T, h⟩ := hc
      rw [show i = D from e, hk3] at h
      cases h)).keep f9 (fun _ _ _ f => f)
    have gf : Fr (fun _ => False) w w9 := (((hf3.trans f4 (T := fun i => i = D) (fun i _ e => by have e : i = D := e; omega)).trans f9 (fun _ _ f => f.elim))).mono (fun i hi e => by have := HBE.out; omega)
    have gr := read_results w9 b up un uc 0 0 g2 g3 g4
    refine ⟨_, gr _ rfl rfl rfl, gf, fun L hL => ?_, fun j c hL => by rw [HL.out] at hL; cases hL⟩
    rw [HL.out] at hL
    injection hL with hL
    subst hL
    refine ⟨_, rfl, ?_⟩
    refine ⟨gt.1, ?_⟩
    rcases gt.2 with h | ⟨g, cap, cur, h1, h2, h3⟩
    · exact Or.inl h
    · exact Or.inr ⟨g, cap, cur, h1, by have := HBE.out; omega, h3⟩
  case pan =>
    rintro D ch W hD ⟨j, c, hK, hL, rfl⟩ hDD
    obtain ⟨v, hv⟩ := hK.l
    have hD5 : b + 5 ≤ D := by have := hD; have := HZ0.out; omega
    show LeavesInM _ _ _ _ _ _ _ _ _
    refine ⟨by simp, .inl ⟨_, _, rfl, run_takeDeferred hDD, ?_⟩⟩
    obtain ⟨W4, hW4⟩ : ∃ W4, W4 = W.putObj D (.deferred none) := ⟨_, rfl⟩
    rw [← hW4]
    have f4 : Fr (fun i => i = D) W W4 := hW4 ▸ ⟨rfl, rfl, rfl, by simp, fun k _ hk => World.putObj_heap_other hk⟩
    refine ⟨by simp, .inr ⟨fun _ => by omega, _, _, 28, #[.pointer (some ⟨b, 0, none⟩), .pointer (some ⟨b + 1, 0, none⟩), .pointer (some ⟨b + 2, 0, none⟩)], rfl, by simp [go_sem], (fun _ _ => trivial), (catch_panic _ W4 b j c v 0 0 (f4.at hv (by omega)) (f4.at hK.c1 (by omega)) (f4.at hK.c2 (by omega))).mono ?_⟩⟩
    rintro e u' w9 ⟨rfl, rfl, g2, g3, g4, f9⟩
    have gf : Fr (fun _ => False) w w9 := ((hK.fr.trans f4 (T := fun i => i = D) (fun i _ e => by have e : i = D := e; omega)).trans f9 (fun i _ e => by omega)).mono (fun i hi e => by have := HBE.out; omega)
    have gr := read_results w9 b none 0 0 j c g2 g3 g4
    refine ⟨_, gr _ rfl rfl rfl, gf, fun L hL2 => by (rw [hL] at hL2; cases hL2), fun j2 c2 hL2 => ?_⟩
    rw [hL] at hL2
    injection hL2 with hL2
    injection hL2 with e1 e2
    subst e1 e2
    rfl

end Go.Proofs.YtbmfmnkfdfdjbaaGreatDoor.D
