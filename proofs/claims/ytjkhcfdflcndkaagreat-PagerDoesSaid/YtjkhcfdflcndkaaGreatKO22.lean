/-
  The document's pager: Read, Free, Drop, unlike. No condition beyond the sizes that are named.
-/
import Derived.Test.YtjkhcfdflcndkaaGreatKO21
namespace Go.Proofs.YtjkhcfdflcndkaaGreat.D
open Go.RowKit Go.Maps Go.Shelf
set_option linter.unusedVariables false
set_option linter.unusedSimpArgs false

set_option maxHeartbeats 4000000 in
set_option maxRecDepth 100000 in
theorem rpread_c (w : World) (q m ub b1 b2 : Nat) (P : PSt) (s : St) (h : RPAt w q m ub P) (hd : RA w m b1 b2 s) (hs : s.Ok) (hP : P.Ok s.n) (k : Int) :
    Calls Tryz.prog 74 #[.pointer (some ⟨q, 0, none⟩), .int .i64 k] w fun e w' => e = .returned (.tuple #[.string (bs (P.read s k).1), .int .i64 (P.read s k).2]) ∧ Fr (fun _ => False) w w' := by
  have HIS := hid (rpis_c w q m ub P h k)
  have hpn : P.pages ≤ 4096 := hP.p2
  have hfn : P.first ≤ 4096 := by have := hP.area; have := hs.n2; omega
  have HA := hid hd
  obtain ⟨⟨cap, h1⟩, _⟩ := h
  have k0 : w.cell? ⟨q, 0, none⟩ = some (.pointer (some ⟨m, 0, none⟩)) := cell_at h1 0
  have k1 : w.cell? ⟨q, 1, none⟩ = some (.int .i64 P.first) := cell_at h1 1
  cases hi : P.is k with
  | false =>
    have HE := hid (show P.read s k = ([], 191) by unfold PSt.read; rw [hi]; rfl)
    rw [hi] at HIS
    rw [HE.out]
    clear h1 hd hs hP hi k0 k1
    go_enter Tryz.func74, Tryz.ntmps74
    go_wp2_with fail
    refine HIS.out.mono ?_
    rintro e w2 ⟨rfl, rfl⟩
    go_wp2_with fail
    go_ret2
    exact ⟨rfl, Fr.refl _ _⟩
  | true =>
    have HE := hid (show P.read s k = s.read ((P.first : Int) + 8 * k) 8 by unfold PSt.read; rw [if_pos hi])
    have hk : 0 ≤ k ∧ k < P.pages := by unfold PSt.is at hi; simpa using hi
    have x1 : IntKind.i64.wrap (8 * k) = 8 * k := by rw [IntKind.wrap_i64]; omega
    have x2 : IntKind.i64.wrap ((P.first : Int) + 8 * k) = (P.first : Int) + 8 * k := by rw [IntKind.wrap_i64]; omega
    rw [hi] at HIS
    have HRD := hid (fun W (hA : RA W m b1 b2 s) => rread_c W m b1 b2 s hA hs ((P.first : Int) + 8 * k) 8 (by omega) (by omega))
    unfold RReadC at HRD
    rw [← HE.out] at HRD
    have hA1 : RA w.drew m b1 b2 s := RC.stay hd ((Fr.refl _ w).drew)
    clear h1 hd hs hP hi
    go_enter Tryz.func74, Tryz.ntmps74
    go_wp2_with fail
    refine HIS.out.mono ?_
    rintro e w2 ⟨rfl, rfl⟩
    go_wp2_with fail
    go_region_held3 (fun w' => w'.cell? ⟨q, 0, none⟩ = some (.pointer (some ⟨m, 0, none⟩)) ∧ w'.cell? ⟨q, 1, none⟩ = some (.int .i64 P.first))
      (first | exact ⟨k0, k1⟩ | exact ⟨cells_stay2 (by assumption) k0, cells_stay2 (by assumption) k1⟩ | go_keep)
      (first
        | (go_at_call 98; refine (HRD.out _ hA1).mono ?_; rintro e w3 ⟨rfl, hf3⟩; have hf3' : Fr (fun _ => False) w2 w3 := ((Fr.refl _ w2).drew).trans hf3 (fun _ _ f => f)))
    all_goals
      go_wp2_with fail
      go_ret2
      exact ⟨rfl, hf3'⟩

theorem useOf_free (P : PSt) (i : Nat) : (useOf P i = 0) = (P.used i = false) := by
  unfold useOf PSt.used
  cases P.live i <;> cases P.taken i <;> simp
theorem useOf_vals (P : PSt) (i : Nat) : useOf P i = 0 ∨ useOf P i = 1 ∨ useOf P i = 2 ∨ useOf P i = 3 := by
  unfold useOf
  cases P.live i <;> cases P.taken i <;> simp

set_option maxHeartbeats 4000000 in
theorem rpfree_c (w : World) (q m ub : Nat) (P : PSt) (h : RPAt w q m ub P) (hp : P.pages ≤ 4096) :
    Calls Tryz.prog 75 #[.pointer (some ⟨q, 0, none⟩)] w fun e w' => e = .returned (.int .i64 P.free) ∧ w' = w := by
  obtain ⟨⟨cap, h1⟩, hU⟩ := h
  have HU := hid hU
  have k2 : w.cell? ⟨q, 2, none⟩ = some (.int .i64 P.pages) := cell_at h1 2
  have k6 : w.cell? ⟨q, 6, none⟩ = some (.slice (some ⟨ub, 0, none⟩) P.pages cap) := cell_at h1 6
  obtain ⟨n, hn⟩ : ∃ n, n = P.pages := ⟨_, rfl⟩
  have HN := hid hn
  rw [← hn] at k2 hp k6
  clear h1 hn hU
  go_enter Tryz.func75, Tryz.ntmps75
  go_wp2_with fail
  go_loop [4, 3] (fun v4 v3 => ∃ i : Nat, v4 = .int .i64 i ∧ v3 = .int .i64 (P.freeTo i) ∧ i ≤ n) (fun v _ => n - (intOf v).toNat)
  case atStart => exact ⟨0, rfl, rfl, by omega⟩
  case round =>
    obtain ⟨i, rfl, rfl, hi⟩ := hrel
    have hfl := freeTo_le P i
    by_cases hend : i = n
    · subst hend
      go_wp2_with fail
      go_ret
      exact ⟨by rw [PSt.free, ← HN.out]; rfl, rfl⟩
    · have hi' : i < n := by omega
      have hc := HU.out.cell (i := i) (by have := HN.out; omega)
      obtain ⟨fr, hfr⟩ : ∃ fr, fr = P.freeTo i := ⟨_, rfl⟩
      rw [← hfr] at hfl
      cases hu : P.used i with
      | true =>
        have HS := hid (show P.freeTo (i + 1) = fr by rw [PSt.freeTo, if_pos hu, hfr])
        rw [← hfr]
        have hz := useOf_free P i
        have hv := useOf_vals P i
        obtain ⟨u, hu2⟩ : ∃ u, u = useOf P i := ⟨_, rfl⟩
        rw [← hu2] at hc hz hv
        have qz : (u == 0) = false := by rw [Bool.eq_false_iff]; intro e; simp at e; rw [e, hu] at hz; simp at hz
        clear hu hfr hend hz hu2
        go_wp2_with fail
        exact ⟨⟨i + 1, by go_num, by rw [HS.out], by omega⟩, by simp [intOf]; omega⟩
      | false =>
        have HS := hid (show P.freeTo (i + 1) = fr + 1 by rw [PSt.freeTo, if_neg (by simp [hu]), hfr])
        rw [← hfr]
        rw [show useOf P i = 0 by rw [useOf_free]; exact hu] at hc
        clear hu hfr hend
        go_wp2_with fail
        exact ⟨⟨i + 1, by go_num, by rw [HS.out]; go_num, by omega⟩, by simp [intOf]; omega⟩

/-- The document's pager has turned; nothing else did. -/
def RPPost (w w' : World) (q m : Nat) (P : PSt) : Prop := ∃ ub, RPAt w' q m ub P ∧ w.heap.size ≤ ub ∧ Fr (· = q) w w'

theorem RPAt.new {w wr : World} {q m ub cap B cap2 : Nat} {P P' : PSt} (h1 : w.heap[q]? = some (.cells #[.pointer (some ⟨m, 0, none⟩), .int .i64 P.first, .int .i64 P.pages, .int .i64 P.root, .int .i64 P.from_, .int .i64 P.gen, .slice (some ⟨ub, 0, none⟩) P.pages cap, .bool P.dead] 40))
    (hB : w.heap.size ≤ B) (hU : UseAt wr B P.pages (useOf P')) (hf : Fr (fun _ => False) w wr) (e1 : P'.first = P.first) (e2 : P'.pages = P.pages) (e3 : P'.root = P.root) (e4 : P'.from_ = P.from_) (e5 : P'.gen = P.gen) (e6 : P'.dead = P.dead) :
    RPPost w (wr.setCell ⟨q, 6, none⟩ (.slice (some ⟨B, 0, none⟩) P.pages cap2)) q m P' := by
  have hq := lt_of_at h1
  refine ⟨B, ⟨⟨cap2, ?_⟩, ?_⟩, hB, (fr_no (S := (· = q)) hf).trans (fr_set1 wr q 6 _) (fun _ _ e => e)⟩
  · rw [set_at (hf.at h1 (fun f => f)) 6, e1, e2, e3, e4, e5, e6]
    rfl
  · rw [e2]
    exact hU.keep (fr_set1 wr q 6 _) (by omega)

set_option maxHeartbeats 4000000 in
set_option maxRecDepth 100000 in
theorem rpdrop_c (w : World) (q m ub : Nat) (P : PSt) (h : RPAt w q m ub P) (hp : P.pages ≤ 4096) :
    Calls Tryz.prog 26 #[.pointer (some ⟨q, 0, none⟩)] w fun e w' => e = .returned (.tuple #[]) ∧ RPPost w w' q m P.drop := by
  obtain ⟨⟨cap, h1⟩, hU⟩ := h
  have HU := hid hU
  have H1 := hid h1
  have k2 : w.cell? ⟨q, 2, none⟩ = some (.int .i64 P.pages) := cell_at h1 2
  obtain ⟨n, hn⟩ : ∃ n, n = P.pages := ⟨_, rfl⟩
  have HN := hid hn
  have hmk := mk_ints n (by omega) w
  have HU0 := hid (zeros_use w n)
  have HF0 := hid ((Fr.refl (fun _ => False) w).alloc (.cells (Array.replicate n (.int .i64 0)) 3))
  rw [← hn] at k2 hp
  clear h1 hn hU
  go_enter Tryz.func26, Tryz.ntmps26
  go_wp2_with fail
  go_loopw [3] (fun v3 wr => ∃ i : Nat, v3 = .int .i64 i ∧ i ≤ n ∧ Hid (UseAt wr w.heap.size n (fun j => if j < i then useOf P.drop j else 0)) ∧ Hid (Fr (fun _ => False) w wr)) (fun v _ => n - (intOf v).toNat)
  case atStart => exact ⟨0, rfl, by omega, hid (HU0.out.congr (fun i hi => by simp)), HF0⟩
  case round =>
    obtain ⟨i, rfl, hi, HV, HF⟩ := hrel
    have c2 : wr.cell? ⟨q, 2, none⟩ = some (.int .i64 n) := by rw [cell_at (HF.out.at H1.out (fun f => f)) 2, HN.out]; rfl
    by_cases hend : i = n
    · have z6 : wr.frozen? ⟨q, 6, none⟩ = false := frozen_at (HF.out.at H1.out (fun f => f)) 6
      have c6 : wr.cell? ⟨q, 6, none⟩ = some (.slice (some ⟨ub, 0, none⟩) P.pages cap) := cell_at (HF.out.at H1.out (fun f => f)) 6
      subst hend
      go_wp2_with fail
      go_end0
      refine ⟨rfl, ?_⟩
      rw [HN.out]
      exact RPAt.new H1.out (Nat.le_refl _) ((HN.out ▸ HV.out).congr (fun j hj => if_pos hj)) HF.out rfl rfl rfl rfl rfl rfl
    · have hi' : i < n := by omega
      have hin : i < P.pages := by have := HN.out; omega
      have c6 : wr.cell? ⟨q, 6, none⟩ = some (.slice (some ⟨ub, 0, none⟩) n cap) := by rw [cell_at (HF.out.at H1.out (fun f => f)) 6, HN.out]; rfl
      have cu := (HU.out.keep HF.out (fun f => f)).cell (i := i) hin
      have cb := HV.out.cell (i := i) hi'
      have zb := HV.out.frozen i
      rw [if_neg (by omega)] at cb
      have HN2 := hid (fun x (e : x = useOf P.drop i) => show UseAt (wr.setCell ⟨w.heap.size, i, none⟩ (.int .i64 x)) w.heap.size n (fun j => if j < i + 1 then useOf P.drop j else 0) from (HV.out.set hi' x).congr (fun j hj => by
        by_cases a : j = i
        · subst a; simp [e]
        · by_cases b : j < i
          · simp [a, b, show j < i + 1 by omega]
          · simp [a, b, show ¬ j < i + 1 by omega]))
      have HF2 := hid (fun x => (HF.out.setCell ⟨w.heap.size, i, none⟩ (fun h => by simp at h) (.int .i64 x)))
      have hv := useOf_vals P i
      have HD := hid (show useOf P.drop i = useOf P i % 2 by unfold useOf PSt.drop; cases P.live i <;> cases P.taken i <;> simp)
      obtain ⟨u, hu⟩ : ∃ u, u = useOf P i := ⟨_, rfl⟩
      rw [← hu] at cu hv HD
      clear hu hend
      rcases hv with rfl | rfl | rfl | rfl <;>
      · go_wp2_with fail
        exact ⟨⟨i + 1, by go_num, by omega, hid (HN2.out _ (by rw [HD.out]; rfl)), hid (HF2.out _)⟩, by simp [intOf]; omega⟩

end Go.Proofs.YtjkhcfdflcndkaaGreat.D

/-
  The document's pager: unlike, Live, Alloc. No condition beyond the sizes that are named.
-/
namespace Go.Proofs.YtjkhcfdflcndkaaGreat.D
open Go.RowKit Go.Maps Go.Shelf
set_option linter.unusedVariables false
set_option linter.unusedSimpArgs false

theorem fr_dn {S : Nat → Prop} {w w' : World} {n : Nat} (h : Fr S w w') : Fr S w (w'.drewN n) := h.trans fr_drewN (fun _ _ f => f.elim)
theorem IntsV.some {w : World} {a : Option Addr} {n cap : Nat} {l : List Int} (h : IntsV w (.slice a n cap) l) (hl : 0 < n) : ∃ b o, a = some ⟨b, o, none⟩ ∧ ∀ j, j < n → w.cell? ⟨b, o + j, none⟩ = some (.int .i64 (l.getD j 0)) := by
  obtain ⟨a', cap', e, h0, h2⟩ := h
  injection e with e1 e2 e3
  subst e1
  rcases h2 with h2 | ⟨b, o, h3, h4⟩
  · rw [h2] at e2; simp at e2; omega
  · exact ⟨b, o, h3, fun j hj => h4 j (by omega)⟩

theorem nodup_snoc (l : List Int) (i : Nat) (hi : i < l.length) : (l.take (i + 1)).Nodup ↔ (l.take i).Nodup ∧ ∀ b, b < i → l.getD b 0 ≠ l.getD i 0 := by
  rw [take_snoc l i hi, List.nodup_append]
  constructor
  · rintro ⟨h1, _, h3⟩
    refine ⟨h1, fun b hb e => h3 (l.getD b 0) ?_ (l.getD i 0) (by simp) e⟩
    rw [List.mem_iff_getElem?]
    refine ⟨b, ?_⟩
    rw [List.getElem?_take_of_lt hb, List.getD_eq_getElem?_getD, List.getElem?_eq_getElem (by omega)]
    rfl
  · rintro ⟨h1, h2⟩
    refine ⟨h1, by simp, fun x hx y hy e => ?_⟩
    obtain ⟨b, hb⟩ := List.mem_iff_getElem?.1 hx
    have hbi : b < i := by
      have := (List.getElem?_eq_some_iff.1 hb).1
      simp at this; omega
    rw [List.getElem?_take_of_lt hbi] at hb
    refine h2 b hbi ?_
    have : y = l.getD i 0 := by simpa using hy
    rw [List.getD_eq_getElem?_getD, hb, ← this, ← e]
    rfl

set_option maxHeartbeats 4000000 in
set_option maxRecDepth 100000 in
theorem runlike_c (w : World) (v : Value) (l : List Int) (h : IntsV w v l) :
    Calls Tryz.prog 67 #[v] w fun e w' => e = .returned (.bool (decide l.Nodup)) ∧ Fr (fun _ => False) w w' := by
  have HV := hid h
  obtain ⟨a, cap, rfl, hlen, _⟩ := h
  obtain ⟨n, hn⟩ : ∃ n, n = l.length := ⟨_, rfl⟩
  rw [← hn] at hlen HV ⊢
  have HN := hid hn
  obtain ⟨R, hR⟩ : ∃ R, R = decide l.Nodup := ⟨_, rfl⟩
  rw [← hR]
  have HR := hid hR
  clear hn hR
  go_enter Tryz.func67, Tryz.ntmps67
  go_wp2_with fail
  go_loopw [3] (fun v3 wr => ∃ i : Nat, v3 = .int .i64 i ∧ i ≤ n ∧ Hid ((l.take i).Nodup) ∧ Hid (Fr (fun _ => False) w wr)) (fun v _ => n - (intOf v).toNat)
  case atStart => exact ⟨0, rfl, by omega, hid (by simp), hid (Fr.refl _ _)⟩
  case round =>
    obtain ⟨i, rfl, hi, HD, HF⟩ := hrel
    by_cases hend : i = n
    · have HZ := hid (show R = true by rw [HR.out]; exact decide_eq_true (by have := HD.out; rwa [hend, HN.out, List.take_length] at this))
      subst hend
      go_wp2_with fail
      go_ret
      exact ⟨by rw [HZ.out]; rfl, HF.out⟩
    · have hi' : i < n := by omega
      obtain ⟨b, o, rfl, hcell⟩ := HV.out.some (by omega)
      have HC := hid hcell
      clear hcell hend
      go_wp2_with fail
      go_loopw [4] (fun v4 wr2 => ∃ k : Nat, v4 = .int .i64 k ∧ k ≤ i ∧ Hid (∀ b, b < k → l.getD b 0 ≠ l.getD i 0) ∧ Hid (Fr (fun _ => False) w wr2)) (fun v _ => i - (intOf v).toNat)
      case atStart => exact ⟨0, rfl, by omega, hid (by omega), HF⟩
      case round =>
        obtain ⟨k, rfl, hk, HU, HF2⟩ := hrel
        by_cases hend : k = i
        · subst hend
          have HS := hid (show (l.take (k + 1)).Nodup from (nodup_snoc l k (by have := HN.out; omega)).2 ⟨HD.out, HU.out⟩)
          go_wp2_with fail
          exact ⟨⟨k + 1, by go_num, by omega, HS, HF2⟩, by simp [intOf]; omega⟩
        · have hk' : k < i := by omega
          have ck := cells_stay2 HF2.out (HC.out k (by omega))
          have ci := cells_stay2 HF2.out (HC.out i hi')
          have HXY := hid (show (l.getD k 0 = l.getD i 0) = (l.getD k 0 = l.getD i 0) from rfl)
          obtain ⟨X, hX⟩ : ∃ X, X = l.getD k 0 := ⟨_, rfl⟩
          obtain ⟨Y, hY⟩ : ∃ Y, Y = l.getD i 0 := ⟨_, rfl⟩
          rw [← hX] at ck
          rw [← hY] at ci
          by_cases he : X = Y
          · have HZ := hid (show R = false by
              rw [HR.out]
              refine decide_eq_false (fun hnd => ?_)
              have h2 : (l.take (i + 1)).Nodup := hnd.sublist (List.take_sublist _ _)
              exact ((nodup_snoc l i (by have := HN.out; omega)).1 h2).2 k hk' (by rw [← hX, ← hY, he]))
            have q : (X == Y) = true := by simpa using he
            clear he hX hY hend HXY
            go_wp2_with fail
            go_quiet (fail)
            go_wp2_with fail
            go_ret
            exact ⟨by rw [HZ.out]; rfl, fr_dn HF2.out⟩
          · have q : (X == Y) = false := by simpa using he
            have HU2 := hid (show ∀ b, b < k + 1 → l.getD b 0 ≠ l.getD i 0 by
              intro b hb
              by_cases e : b = k
              · rw [e, ← hX, ← hY]; exact he
              · exact HU.out b (by omega))
            clear he hX hY hend HXY
            go_wp2_with fail
            go_quiet (fail)
            go_wp2_with fail
            exact ⟨⟨k + 1, by go_num, by omega, HU2, hid (fr_dn HF2.out)⟩, by simp [intOf]; omega⟩


/-- The same row anew, as an append onto nothing makes it. -/
theorem append_use (w : World) (ub n cap : Nat) (f : Nat → Int) (h : UseAt w ub n f) (h1 : 1 ≤ n) (hn : n ≤ 4096) :
    ∃ b c w', (Builtin.append_ #[38, 38] 38 #[.slice (some ⟨w.heap.size, 0, none⟩) 0 0, .slice (some ⟨ub, 0, none⟩) n cap]).run Tryz.prog (w.alloc (.cells #[] 3)) = .ok (.slice (some ⟨b, 0, none⟩) n c) w' ∧ UseAt w' b n f ∧ w.heap.size ≤ b ∧ Fr (fun _ => False) w w' := by
  obtain ⟨i0, hi, hz0, hz1, hz2⟩ := info_parts (show (Tryz.prog.info? 3).map (fun i => (i.zero, i.size, i.bytes)) = some (some (.int .i64 0), 1, 8) by kernel_rfl)
  have hF0 : Fr (fun _ => False) w (w.alloc (.cells #[] 3)) := (Fr.refl _ w).alloc _
  have h' := h.keep hF0 (fun f => f)
  have hown := World.ownsRow_made (base := w.heap.size) (e := 3) (size := 1) w #[] 0 (Nat.le_refl _) (Nat.zero_le _) (by simp)
  obtain ⟨v', w2, hrun, hown2, hgr2, hnil⟩ := run_append_own (P := Tryz.prog) (w.alloc (.cells #[] 3)) w.heap.size 38 38 3 i0 (.int .i64 0) 1 8 Tryz.underlying38 hi hz0 hz1 hz2 rfl (by decide)
    (.slice (some ⟨w.heap.size, 0, none⟩) 0 0) 0 [] hown ⟨ub, 0, none⟩ n cap ((List.range n).map (fun i => Value.int .i64 (f i))) (by simp) (by
      intro j u hu
      have hj : j < n := by have := (List.getElem?_eq_some_iff.1 hu).1; simpa using this
      have e1 : (⟨ub, 0, none⟩ : Addr).add j = ⟨ub, 0 + j, none⟩ := by unfold Addr.add; split <;> simp_all
      rw [e1, Nat.zero_add, h'.cell hj]
      simpa [hj] using hu) (by
      intro u hu
      obtain ⟨x, _, rfl⟩ := List.mem_map.1 hu
      rfl) (by unfold maxLen; omega) (by omega) (by simp)
  rw [Nat.zero_add, List.nil_append] at hown2
  rcases hown2.2 with ⟨h0, _⟩ | ⟨b2, cap2, cur, rfl, hb1, hb2, hb3, hb4, hb5, hb6⟩
  · have := (hnil.1 h0).1
    omega
  · refine ⟨b2, cap2, w2, hrun, ⟨cur, hb2, fun j hj => ?_⟩, hb1, hF0.grown hgr2 (by intro k hk hl; simp [Value.ownBlock] at hk; omega)⟩
    have h5 : (cur.toList.take (n * 1))[j]? = ((List.range n).map (fun i => Value.int .i64 (f i)))[j]? := by rw [hb6]
    rw [List.getElem?_take_of_lt (by omega)] at h5
    have h6 : cur[j]? = cur.toList[j]? := by simp
    rw [h6, h5]
    simp [hj]

set_option maxHeartbeats 4000000 in
set_option maxRecDepth 100000 in
theorem rpalloc_c (w : World) (q m ub : Nat) (P : PSt) (h : RPAt w q m ub P) (hp1 : 1 ≤ P.pages) (hp : P.pages ≤ 4096) :
    Calls Tryz.prog 20 #[.pointer (some ⟨q, 0, none⟩)] w fun e w' => e = .returned (.tuple #[.int .i64 P.alloc.2.1, .int .i64 P.alloc.2.2]) ∧ ∃ ub', RPAt w' q m ub' P.alloc.1 ∧ (ub' = ub ∨ w.heap.size ≤ ub') ∧ Fr (· = q) w w' := by
  have HP := hid h
  obtain ⟨⟨cap, h1⟩, hU⟩ := h
  have HU := hid hU
  have H1 := hid h1
  have k2 : w.cell? ⟨q, 2, none⟩ = some (.int .i64 P.pages) := cell_at h1 2
  have k6 : w.cell? ⟨q, 6, none⟩ = some (.slice (some ⟨ub, 0, none⟩) P.pages cap) := cell_at h1 6
  obtain ⟨n, hn⟩ : ∃ n, n = P.pages := ⟨_, rfl⟩
  have HN := hid hn
  have HA := hid (show P.alloc = match P.pick n 0 with | some i => (P.take i, (i : Int), 0) | none => (P, 0, 192) by rw [hn]; rfl)
  have hU' : UseAt w ub n (useOf P) := hn ▸ hU
  have HAP := hid (append_use w ub n cap (useOf P) hU' (by omega) (by omega))
  rw [← hn] at k2 hp k6
  clear h1 hn hU hU'
  go_enter Tryz.func20, Tryz.ntmps20
  go_wp2_with fail
  go_loop [4] (fun v4 => ∃ i : Nat, v4 = .int .i64 i ∧ i ≤ n ∧ Hid (P.pick n 0 = P.pick (n - i) i)) (fun v => n - (intOf v).toNat)
  case atStart => exact ⟨0, rfl, by omega, hid rfl⟩
  case round =>
    obtain ⟨i, rfl, hi, HK⟩ := hrel
    by_cases hend : i = n
    · have HZ := hid (show P.alloc = (P, 0, 192) by rw [HA.out, HK.out, hend, Nat.sub_self]; rfl)
      subst hend
      go_wp2_with fail
      go_ret2
      rw [HZ.out]
      exact ⟨rfl, ub, HP.out, Or.inl rfl, Fr.refl _ _⟩
    · have hi' : i < n := by omega
      have hc := HU.out.cell (i := i) (by have := HN.out; omega)
      have hne : n - i = (n - (i + 1)) + 1 := by omega
      have HST := hid (show P.pick (n - i) i = if P.used i then P.pick (n - (i + 1)) (i + 1) else some i by rw [hne]; rfl)
      cases hu : P.used i with
      | true =>
        have HS := hid (show P.pick n 0 = P.pick (n - (i + 1)) (i + 1) by rw [HK.out, HST.out, if_pos hu])
        have hz := useOf_free P i
        have hv := useOf_vals P i
        obtain ⟨u, hu2⟩ : ∃ u, u = useOf P i := ⟨_, rfl⟩
        rw [← hu2] at hc hz hv
        have qz : (u == 0) = false := by rw [Bool.eq_false_iff]; intro e; simp at e; rw [e, hu] at hz; simp at hz
        clear hu hend hz hu2 hne
        go_wp2_with fail
        exact ⟨⟨i + 1, by go_num, by omega, HS⟩, by simp [intOf]; omega⟩
      | false =>
        have HZ := hid (show P.alloc = (P.take i, (i : Int), 0) by rw [HA.out, HK.out, HST.out, if_neg (by simp [hu])])
        rw [show useOf P i = 0 by rw [useOf_free]; exact hu] at hc
        obtain ⟨b, c, w2, hrun, hU2, hb, hf2⟩ := HAP.out
        have h2 := hf2.at H1.out (fun f => f)
        have z6 : w2.frozen? ⟨q, 6, none⟩ = false := frozen_at h2 6
        have k6b : w2.cell? ⟨q, 6, none⟩ = some (.slice (some ⟨ub, 0, none⟩) P.pages cap) := cell_at h2 6
        have hq := lt_of_at H1.out
        have h3 := set_at h2 6 (.slice (some ⟨b, 0, none⟩) n c)
        have k6c : (w2.setCell ⟨q, 6, none⟩ (.slice (some ⟨b, 0, none⟩) n c)).cell? ⟨q, 6, none⟩ = some (.slice (some ⟨b, 0, none⟩) n c) := by rw [cell_at h3]; rfl
        have hU3 : UseAt (w2.setCell ⟨q, 6, none⟩ (.slice (some ⟨b, 0, none⟩) n c)) b n (useOf P) := hU2.keep (fr_set1 w2 q 6 _) (by omega)
        have cb := hU3.cell hi'
        have zb := hU3.frozen i
        have HL := hid (show P.live i = false by unfold PSt.used at hu; cases e : P.live i <;> simp_all)
        have H3 := hid h3
        have HU3 := hid hU3
        have HF2 := hid hf2
        have HB := hid hb
        clear hu hend hne h2 h3 hU3 hU2 hf2 hb
        go_wp2_with (at_builtin; refine wpList_append_run rfl (.tmp 22) (.tmp 26) 38 38 rfl _ _ _ _ rfl rfl hrun ?_)
        go_ret2
        rw [HZ.out]
        have hbq : b ≠ q := by have := HB.out; have := lt_of_at H1.out; omega
        refine ⟨rfl, b, ⟨⟨c, ?_⟩, ?_⟩, Or.inr HB.out, ?_⟩
        · have h4 := (fr_set1 (w2.setCell ⟨q, 6, none⟩ (.slice (some ⟨b, 0, none⟩) n c)) b i (.int .i64 2)).at H3.out (fun e => hbq e.symm)
          rw [h4]
          show _ = some (Obj.cells #[_, _, .int .i64 P.pages, _, _, _, .slice (some ⟨b, 0, none⟩) P.pages c, _] _)
          rw [← HN.out]
          rfl
        · show UseAt _ b P.pages _
          rw [← HN.out]
          refine (HU3.out.set hi' 2).congr (fun j hj => ?_)
          have hl := HL.out
          by_cases e : j = i
          · subst e
            simp [useOf, PSt.take, hl]
          · have e2 : ¬ (j : Int) = i := by omega
            rcases Bool.eq_false_or_eq_true (P.live (j : Int)) with e3 | e3 <;> simp [useOf, PSt.take, e, e2, e3]
        · refine ((fr_no (S := (· = q)) HF2.out).trans (fr_set1 w2 q 6 _) (fun _ _ e => e)).setCell _ (fun h => ?_) _
          have := HB.out
          simp at h
          omega

end Go.Proofs.YtjkhcfdflcndkaaGreat.D
