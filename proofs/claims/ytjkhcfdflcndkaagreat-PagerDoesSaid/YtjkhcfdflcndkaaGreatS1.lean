/-
  The program's pager: Dead, Clone. No condition.
-/
import Derived.Test.YtjkhcfdflcndkaaGreatKO10
import Derived.Test.YtjkhcfdflcndkaaGreatKO02
namespace Go.Proofs.YtjkhcfdflcndkaaGreat.D
open Go.RowKit Go.Maps Go.Shelf
set_option linter.unusedVariables false
set_option linter.unusedSimpArgs false

theorem pdead_c (w : World) (p g ml mt : Nat) (P : PSt) (h : PAt w p g ml mt P) :
    Calls Tryz.prog 76 #[.pointer (some ⟨p, 0, none⟩)] w fun e w' => e = .returned (.bool P.dead) ∧ w' = w := by
  have c8 : w.cell? ⟨p, 8, none⟩ = some (.bool P.dead) := cell_at h.1 8
  obtain ⟨d, hd⟩ : ∃ d, d = P.dead := ⟨_, rfl⟩
  rw [← hd] at c8 ⊢
  clear h hd
  go_enter Tryz.func76, Tryz.ntmps76
  go_wp2
  go_ret
  exact ⟨rfl, rfl⟩

theorem set_clone (w : World) (b : Nat) (f : Int → Bool) (h : SetAt w b f) :
    Calls Tryz.prog 73 #[.map (some b)] w fun e w' => e = .returned (.map (some w.heap.size)) ∧ SetAt w' w.heap.size f ∧ Fr (fun _ => False) w w' := by
  obtain ⟨n, D, hown, h2, h3⟩ := h
  refine (AnyW.maps_Clone_owns Tryz.cloneN 3 (unitElem (H := Unit)) b n D w hown).mono ?_
  rintro e w' ⟨rfl, ho, _, hb⟩
  exact ⟨rfl, ⟨n, D, ho, h2, h3⟩, Fr.below hb _⟩

/-- An operation of a drawn region taken first; its slot named. -/
theorem tkS {P : Program} {md : Region.Mode} {ops : Array Oper} {Q : Exit → Act → World → Prop} {S : World → Prop} {i : Nat} {d : Option Nat} {oi : Oper} {v : Value} {fuel : Nat} {listed : Array Bool} {a : Act} {w : World} (hi : ops[i]? = some oi) (hd : oi.dst = d)
    (hs : Region.noSelect ops = true) (hf : Region.free md ops listed i = true) (hr : (Region.ready md ops listed).contains i = true)
    (hQ : ∀ c a w, Q (.panic c) (a.put oi.dst v) w → Q (.panic c) a w) (hy : YieldsIf P ops S oi v a) (hS : S w)
    (h : wpAnyH P md ops Q S fuel (listed.setIfInBounds i true) (a.put d v) w) : wpAnyH P md ops Q S (fuel + 1) listed a w := by
  subst hd
  exact wpAnyH_take hi hs hf hr hQ hy hS h

set_option maxRecDepth 100000 in
theorem pclone_c (w : World) (p g g2 ml mt : Nat) (P : PSt) (h : PAt w p g ml mt P) :
    Calls Tryz.prog 37 #[.pointer (some ⟨p, 0, none⟩), .pointer (some ⟨g2, 0, none⟩)] w fun e w' => ∃ p2 l2 t2, e = .returned (.pointer (some ⟨p2, 0, none⟩)) ∧ PAt w' p2 g2 l2 t2 P ∧ w.heap.size ≤ p2 ∧ w.heap.size ≤ l2 ∧ w.heap.size ≤ t2 ∧ Fr (fun _ => False) w w' := by
  have HA := hid h
  have c0 : w.cell? ⟨p, 0, none⟩ = some (.pointer (some ⟨g, 0, none⟩)) := cell_at h.1 0
  have c1 : w.cell? ⟨p, 1, none⟩ = some (.int .i64 P.first) := cell_at h.1 1
  have c2 : w.cell? ⟨p, 2, none⟩ = some (.int .i64 P.pages) := cell_at h.1 2
  have c3 : w.cell? ⟨p, 3, none⟩ = some (.int .i64 P.root) := cell_at h.1 3
  have c4 : w.cell? ⟨p, 4, none⟩ = some (.int .i64 P.from_) := cell_at h.1 4
  have c5 : w.cell? ⟨p, 5, none⟩ = some (.int .i64 P.gen) := cell_at h.1 5
  have c6 : w.cell? ⟨p, 6, none⟩ = some (.map (some ml)) := cell_at h.1 6
  have c7 : w.cell? ⟨p, 7, none⟩ = some (.map (some mt)) := cell_at h.1 7
  have c8 : w.cell? ⟨p, 8, none⟩ = some (.bool P.dead) := cell_at h.1 8
  obtain ⟨w1, hw1⟩ : ∃ w1, w1 = w.alloc (.cells #[.pointer (some ⟨g, 0, none⟩), .int .i64 P.first, .int .i64 P.pages, .int .i64 P.root, .int .i64 P.from_, .int .i64 P.gen, .map (some ml), .map (some mt), .bool P.dead] 70) := ⟨_, rfl⟩
  obtain ⟨x, hx⟩ : ∃ x, x = w.heap.size := ⟨_, rfl⟩
  have hnew : w1.heap[x]? = some (.cells (pcells g ml mt P) 70) := by rw [hw1, hx]; exact (MapKept.heap_alloc w _).1
  have hf1 : Fr (fun _ => False) w w1 := hw1 ▸ (Fr.refl _ w).alloc _
  have HN := hid hnew
  have HF := hid hf1
  have hA1 := h.stay hf1
  have HA1 := hid hA1
  have hpx : p ≠ x := by have := lt_of_at h.1; omega
  have m6 : w1.cell? ⟨p, 6, none⟩ = some (.map (some ml)) := cell_at hA1.1 6
  have m7 : w1.cell? ⟨p, 7, none⟩ = some (.map (some mt)) := cell_at hA1.1 7
  have HPX := hid hpx
  have HX := hid hx
  have HW1 := hid hw1
  clear h hnew hf1 hA1 hpx
  clear hw1 hx
  go_enter Tryz.func37, Tryz.ntmps37
  go_upto_region 2 with fail
  rw [← HW1.out, ← HX.out]
  refine wp_region_held_drew (S := fun w' => w'.cell? ⟨p, 6, none⟩ = some (.map (some ml)) ∧ w'.cell? ⟨p, 7, none⟩ = some (.map (some mt))) (by kernel_rfl) (⟨m6, m7⟩) (fun hHeld => ?_)
  refine tkS (i := 0) (d := some 9) (oi := { dst := some 9, op := Op.move (Operand.tmp 1), type := 25, pos := "pager.go:235", after := #[], guard := none }) (v := ?v1) rfl rfl (by kernel_rfl) (by kernel_rfl) (by kernel_rfl) (fun _ _ _ h => h) (Or.inl ⟨by rfl, ?hy1⟩) (by assumption) ?rest1
  case hy1 =>
    intro w hSw
    go_simp
    first | done | with_reducible rfl
  try simp only [Act.put, List.setIfInBounds_toArray, List.set_cons_zero, List.set_cons_succ]
  refine tkS (i := 1) (d := some 10) (oi := { dst := some 10, op := Op.move (Operand.tmp 0), type := 29, pos := "pager.go:235", after := #[], guard := none }) (v := ?v2) rfl rfl (by kernel_rfl) (by kernel_rfl) (by kernel_rfl) (fun _ _ _ h => h) (Or.inl ⟨by rfl, ?hy2⟩) (by assumption) ?rest2
  case hy2 =>
    intro w hSw
    go_simp
    first | done | with_reducible rfl
  try simp only [Act.put, List.setIfInBounds_toArray, List.set_cons_zero, List.set_cons_succ]
  refine tkS (i := 2) (d := some 11) (oi := { dst := some 11, op := Op.nilCheck (Operand.tmp 10), type := 0, pos := "pager.go:235", after := #[{ on := 1, ground := Ground.data }], guard := none }) (v := ?v3) rfl rfl (by kernel_rfl) (by kernel_rfl) (by kernel_rfl) (fun _ _ _ h => h) (Or.inl ⟨by rfl, ?hy3⟩) (by assumption) ?rest3
  case hy3 =>
    intro w hSw
    go_simp
    first | done | with_reducible rfl
  try simp only [Act.put, List.setIfInBounds_toArray, List.set_cons_zero, List.set_cons_succ]
  refine tkS (i := 3) (d := some 12) (oi := { dst := some 12, op := Op.fieldAddr 70 (Operand.tmp 11) 6, type := 0, pos := "pager.go:235", after := #[{ on := 2, ground := Ground.data }], guard := none }) (v := ?v4) rfl rfl (by kernel_rfl) (by kernel_rfl) (by kernel_rfl) (fun _ _ _ h => h) (Or.inl ⟨by rfl, ?hy4⟩) (by assumption) ?rest4
  case hy4 =>
    intro w hSw
    go_simp
    first | done | with_reducible rfl
  try simp only [Act.put, List.setIfInBounds_toArray, List.set_cons_zero, List.set_cons_succ]
  refine tkS (i := 4) (d := some 13) (oi := { dst := some 13, op := Op.load 68 (Operand.tmp 12), type := 68, pos := "pager.go:235", after := #[{ on := 3, ground := Ground.data }], guard := none }) (v := ?v5) rfl rfl (by kernel_rfl) (by kernel_rfl) (by kernel_rfl) (fun _ _ _ h => h) (Or.inl ⟨by rfl, ?hy5⟩) (by assumption) ?rest5
  case hy5 =>
    intro w hSw
    go_simp
    first | done | with_reducible rfl
  try simp only [Act.put, List.setIfInBounds_toArray, List.set_cons_zero, List.set_cons_succ]
  refine tkS (i := 6) (d := some 15) (oi := { dst := some 15, op := Op.move (Operand.tmp 0), type := 29, pos := "pager.go:235", after := #[], guard := none }) (v := ?v6) rfl rfl (by kernel_rfl) (by kernel_rfl) (by kernel_rfl) (fun _ _ _ h => h) (Or.inl ⟨by rfl, ?hy6⟩) (by assumption) ?rest6
  case hy6 =>
    intro w hSw
    go_simp
    first | done | with_reducible rfl
  try simp only [Act.put, List.setIfInBounds_toArray, List.set_cons_zero, List.set_cons_succ]
  refine tkS (i := 7) (d := some 16) (oi := { dst := some 16, op := Op.nilCheck (Operand.tmp 15), type := 0, pos := "pager.go:235", after := #[{ on := 6, ground := Ground.data }], guard := none }) (v := ?v7) rfl rfl (by kernel_rfl) (by kernel_rfl) (by kernel_rfl) (fun _ _ _ h => h) (Or.inl ⟨by rfl, ?hy7⟩) (by assumption) ?rest7
  case hy7 =>
    intro w hSw
    go_simp
    first | done | with_reducible rfl
  try simp only [Act.put, List.setIfInBounds_toArray, List.set_cons_zero, List.set_cons_succ]
  refine tkS (i := 8) (d := some 17) (oi := { dst := some 17, op := Op.fieldAddr 70 (Operand.tmp 16) 7, type := 0, pos := "pager.go:235", after := #[{ on := 7, ground := Ground.data }], guard := none }) (v := ?v8) rfl rfl (by kernel_rfl) (by kernel_rfl) (by kernel_rfl) (fun _ _ _ h => h) (Or.inl ⟨by rfl, ?hy8⟩) (by assumption) ?rest8
  case hy8 =>
    intro w hSw
    go_simp
    first | done | with_reducible rfl
  try simp only [Act.put, List.setIfInBounds_toArray, List.set_cons_zero, List.set_cons_succ]
  refine tkS (i := 9) (d := some 18) (oi := { dst := some 18, op := Op.load 68 (Operand.tmp 17), type := 68, pos := "pager.go:235", after := #[{ on := 8, ground := Ground.data }], guard := none }) (v := ?v9) rfl rfl (by kernel_rfl) (by kernel_rfl) (by kernel_rfl) (fun _ _ _ h => h) (Or.inl ⟨by rfl, ?hy9⟩) (by assumption) ?rest9
  case hy9 =>
    intro w hSw
    go_simp
    first | done | with_reducible rfl
  try simp only [Act.put, List.setIfInBounds_toArray, List.set_cons_zero, List.set_cons_succ]
  refine wpAnyH_ready (rs := [5]) (by kernel_rfl) (by simp) ?_
  refine AllReadyH.cons (o := { dst := some 14, op := Op.call { callee := Callee.value (Operand.func 73), args := #[Operand.tmp 13], argTypes := #[68] }, type := 68, pos := "pager.go:235", after := #[{ on := 4, ground := Ground.data }], guard := none }) rfl (fun K hK => ?_) AllReadyH.nil
  go_simp
  refine (set_clone _ _ _ (HA1.out.stay ((Fr.refl _ _).drew)).2.1).mono ?_
  rintro e w2 ⟨rfl, hs2, hf2⟩
  have HS2 := hid hs2
  have HF2 := hid (((Fr.refl (fun _ => False) w1).drew).trans hf2 (fun _ _ f => f))
  have HT2 := hid (HA1.out.stay HF2.out).2.2.1
  clear hs2 hf2
  go_wp2_with fail
  refine hK.out _ _ (⟨cells_stay2 HF2.out m6, cells_stay2 HF2.out m7⟩) (fun hHeld => ?_)
  clear hK K
  try simp only [Act.put, List.setIfInBounds_toArray, List.set_cons_zero, List.set_cons_succ]
  refine wpAnyH_ready (rs := [10]) (by kernel_rfl) (by simp) ?_
  refine AllReadyH.cons (o := { dst := some 19, op := Op.call { callee := Callee.value (Operand.func 73), args := #[Operand.tmp 18], argTypes := #[68] }, type := 68, pos := "pager.go:235", after := #[{ on := 9, ground := Ground.data }, { on := 5, ground := Ground.chain }], guard := none }) rfl (fun K hK => ?_) AllReadyH.nil
  go_simp
  refine (set_clone _ _ _ HT2.out).mono ?_
  rintro e w3 ⟨rfl, hs3, hf3⟩
  have HS3 := hid hs3
  have HF3 := hid hf3
  have HFX := hid (HF2.out.trans hf3 (fun _ _ f => f))
  clear hs3 hf3
  have hb3 := HFX.out.at HN.out (fun f => f)
  have e0 : w3.cell? ⟨x, 0, none⟩ = some (.pointer (some ⟨g, 0, none⟩)) := cell_at hb3 0
  have f0 : w3.frozen? ⟨x, 0, none⟩ = false := frozen_at hb3 0
  have hb4 := set_at hb3 0 (.pointer (some ⟨g2, 0, none⟩))
  have e1 : (w3.setCell ⟨x, 0, none⟩ (.pointer (some ⟨g2, 0, none⟩))).cell? ⟨x, 6, none⟩ = some (.map (some ml)) := cell_at hb4 6
  have f1 : (w3.setCell ⟨x, 0, none⟩ (.pointer (some ⟨g2, 0, none⟩))).frozen? ⟨x, 6, none⟩ = false := frozen_at hb4 6
  have hb5 := set_at hb4 6 (.map (some w1.heap.size))
  have e2 : ((w3.setCell ⟨x, 0, none⟩ (.pointer (some ⟨g2, 0, none⟩))).setCell ⟨x, 6, none⟩ (.map (some w1.heap.size))).cell? ⟨x, 7, none⟩ = some (.map (some mt)) := cell_at hb5 7
  have f2 : ((w3.setCell ⟨x, 0, none⟩ (.pointer (some ⟨g2, 0, none⟩))).setCell ⟨x, 6, none⟩ (.map (some w1.heap.size))).frozen? ⟨x, 7, none⟩ = false := frozen_at hb5 7
  have hb6 := set_at hb5 7 (.map (some w2.heap.size))
  have HB6 := hid (show (((w3.setCell ⟨x, 0, none⟩ (.pointer (some ⟨g2, 0, none⟩))).setCell ⟨x, 6, none⟩ (.map (some w1.heap.size))).setCell ⟨x, 7, none⟩ (.map (some w2.heap.size))).heap[x]? = some (.cells (pcells g2 w1.heap.size w2.heap.size P) 70) from hb6.trans rfl)
  have g4 : Fr (· = x) w3 (w3.setCell ⟨x, 0, none⟩ (.pointer (some ⟨g2, 0, none⟩))) := fr_set1 w3 x 0 _
  have g5 : Fr (· = x) w3 ((w3.setCell ⟨x, 0, none⟩ (.pointer (some ⟨g2, 0, none⟩))).setCell ⟨x, 6, none⟩ (.map (some w1.heap.size))) := g4.trans (fr_set1 _ x 6 _) (fun _ _ e => e)
  have HG4 := hid (HFX.out.at HA1.out.1 (fun f => f))
  have s4 : (w3.setCell ⟨x, 0, none⟩ (.pointer (some ⟨g2, 0, none⟩))).cell? ⟨p, 6, none⟩ = some (.map (some ml)) ∧ (w3.setCell ⟨x, 0, none⟩ (.pointer (some ⟨g2, 0, none⟩))).cell? ⟨p, 7, none⟩ = some (.map (some mt)) := ⟨cell_at (g4.at HG4.out HPX.out) 6, cell_at (g4.at HG4.out HPX.out) 7⟩
  have s5 : ((w3.setCell ⟨x, 0, none⟩ (.pointer (some ⟨g2, 0, none⟩))).setCell ⟨x, 6, none⟩ (.map (some w1.heap.size))).cell? ⟨p, 6, none⟩ = some (.map (some ml)) ∧ ((w3.setCell ⟨x, 0, none⟩ (.pointer (some ⟨g2, 0, none⟩))).setCell ⟨x, 6, none⟩ (.map (some w1.heap.size))).cell? ⟨p, 7, none⟩ = some (.map (some mt)) := ⟨cell_at (g5.at HG4.out HPX.out) 6, cell_at (g5.at HG4.out HPX.out) 7⟩
  have HG6 := hid (show Fr (· = x) w3 (((w3.setCell ⟨x, 0, none⟩ (.pointer (some ⟨g2, 0, none⟩))).setCell ⟨x, 6, none⟩ (.map (some w1.heap.size))).setCell ⟨x, 7, none⟩ (.map (some w2.heap.size))) from g5.trans (fr_set1 _ x 7 _) (fun _ _ e => e))
  have s6 : (((w3.setCell ⟨x, 0, none⟩ (.pointer (some ⟨g2, 0, none⟩))).setCell ⟨x, 6, none⟩ (.map (some w1.heap.size))).setCell ⟨x, 7, none⟩ (.map (some w2.heap.size))).cell? ⟨p, 6, none⟩ = some (.map (some ml)) ∧ (((w3.setCell ⟨x, 0, none⟩ (.pointer (some ⟨g2, 0, none⟩))).setCell ⟨x, 6, none⟩ (.map (some w1.heap.size))).setCell ⟨x, 7, none⟩ (.map (some w2.heap.size))).cell? ⟨p, 7, none⟩ = some (.map (some mt)) := ⟨cell_at (HG6.out.at HG4.out HPX.out) 6, cell_at (HG6.out.at HG4.out HPX.out) 7⟩
  clear hb3 hb4 hb5 hb6 g4 g5
  go_wp2_with fail
  refine hK.out _ _ (⟨cells_stay2 HFX.out m6, cells_stay2 HFX.out m7⟩) (fun hHeld => ?_)
  clear hK K
  try simp only [Act.put, List.setIfInBounds_toArray, List.set_cons_zero, List.set_cons_succ]
  refine tkS (i := 11) (d := some 20) (oi := { dst := some 20, op := Op.fieldAddr 70 (Operand.tmp 5) 0, type := 0, pos := "pager.go:235", after := #[{ on := 0, ground := Ground.phase }, { on := 1, ground := Ground.textOnly Departure.lateStores }, { on := 2, ground := Ground.textOnly Departure.lateStoresUnsure }, { on := 3, ground := Ground.textOnly Departure.lateStoresUnsure }, { on := 4, ground := Ground.phase }, { on := 5, ground := Ground.phase }, { on := 6, ground := Ground.textOnly Departure.lateStores }, { on := 7, ground := Ground.textOnly Departure.lateStoresUnsure }, { on := 8, ground := Ground.textOnly Departure.lateStoresUnsure }, { on := 9, ground := Ground.phase }, { on := 10, ground := Ground.phase }], guard := none }) (v := ?v12) rfl rfl (by kernel_rfl) (by kernel_rfl) (by kernel_rfl) (fun _ _ _ h => h) (Or.inl ⟨by rfl, ?hy12⟩) (by assumption) ?rest12
  case hy12 =>
    intro w hSw
    go_simp
    first | done | with_reducible rfl
  try simp only [Act.put, List.setIfInBounds_toArray, List.set_cons_zero, List.set_cons_succ]
  refine wpAnyH_ready (rs := [12]) (by kernel_rfl) (by simp) ?_
  refine AllReadyH.cons (o := { dst := none, op := Op.store 25 (Operand.tmp 20) (Operand.tmp 9), type := 0, pos := "pager.go:235", after := #[{ on := 11, ground := Ground.data }, { on := 0, ground := Ground.data }, { on := 10, ground := Ground.chain }, { on := 0, ground := Ground.phase }, { on := 1, ground := Ground.textOnly Departure.lateStores }, { on := 2, ground := Ground.textOnly Departure.lateStoresUnsure }, { on := 3, ground := Ground.textOnly Departure.lateStoresUnsure }, { on := 4, ground := Ground.phase }, { on := 5, ground := Ground.phase }, { on := 6, ground := Ground.textOnly Departure.lateStores }, { on := 7, ground := Ground.textOnly Departure.lateStoresUnsure }, { on := 8, ground := Ground.textOnly Departure.lateStoresUnsure }, { on := 9, ground := Ground.phase }, { on := 10, ground := Ground.phase }], guard := none }) rfl (fun K hK => ?_) AllReadyH.nil
  go_simp
  refine hK.out _ _ (s4) (fun hHeld => ?_)
  clear hK K
  try simp only [Act.put, List.setIfInBounds_toArray, List.set_cons_zero, List.set_cons_succ]
  refine tkS (i := 13) (d := some 21) (oi := { dst := some 21, op := Op.fieldAddr 70 (Operand.tmp 5) 6, type := 0, pos := "pager.go:235", after := #[{ on := 0, ground := Ground.phase }, { on := 1, ground := Ground.phase }, { on := 2, ground := Ground.phase }, { on := 3, ground := Ground.phase }, { on := 4, ground := Ground.phase }, { on := 5, ground := Ground.phase }, { on := 6, ground := Ground.textOnly Departure.lateStores }, { on := 7, ground := Ground.textOnly Departure.lateStoresUnsure }, { on := 8, ground := Ground.textOnly Departure.lateStoresUnsure }, { on := 9, ground := Ground.phase }, { on := 10, ground := Ground.phase }, { on := 11, ground := Ground.phase }, { on := 12, ground := Ground.phase }], guard := none }) (v := ?v14) rfl rfl (by kernel_rfl) (by kernel_rfl) (by kernel_rfl) (fun _ _ _ h => h) (Or.inl ⟨by rfl, ?hy14⟩) (by assumption) ?rest14
  case hy14 =>
    intro w hSw
    go_simp
    first | done | with_reducible rfl
  try simp only [Act.put, List.setIfInBounds_toArray, List.set_cons_zero, List.set_cons_succ]
  refine wpAnyH_ready (rs := [14]) (by kernel_rfl) (by simp) ?_
  refine AllReadyH.cons (o := { dst := none, op := Op.store 68 (Operand.tmp 21) (Operand.tmp 14), type := 0, pos := "pager.go:235", after := #[{ on := 13, ground := Ground.data }, { on := 5, ground := Ground.data }, { on := 12, ground := Ground.chain }, { on := 0, ground := Ground.phase }, { on := 1, ground := Ground.phase }, { on := 2, ground := Ground.phase }, { on := 3, ground := Ground.phase }, { on := 4, ground := Ground.phase }, { on := 5, ground := Ground.phase }, { on := 6, ground := Ground.textOnly Departure.lateStores }, { on := 7, ground := Ground.textOnly Departure.lateStoresUnsure }, { on := 8, ground := Ground.textOnly Departure.lateStoresUnsure }, { on := 9, ground := Ground.phase }, { on := 10, ground := Ground.phase }, { on := 11, ground := Ground.phase }, { on := 12, ground := Ground.phase }], guard := none }) rfl (fun K hK => ?_) AllReadyH.nil
  go_simp
  refine hK.out _ _ (s5) (fun hHeld => ?_)
  clear hK K
  try simp only [Act.put, List.setIfInBounds_toArray, List.set_cons_zero, List.set_cons_succ]
  refine tkS (i := 15) (d := some 22) (oi := { dst := some 22, op := Op.fieldAddr 70 (Operand.tmp 5) 7, type := 0, pos := "pager.go:235", after := #[{ on := 0, ground := Ground.phase }, { on := 1, ground := Ground.phase }, { on := 2, ground := Ground.phase }, { on := 3, ground := Ground.phase }, { on := 4, ground := Ground.phase }, { on := 5, ground := Ground.phase }, { on := 6, ground := Ground.phase }, { on := 7, ground := Ground.phase }, { on := 8, ground := Ground.phase }, { on := 9, ground := Ground.phase }, { on := 10, ground := Ground.phase }, { on := 11, ground := Ground.phase }, { on := 12, ground := Ground.phase }, { on := 13, ground := Ground.phase }, { on := 14, ground := Ground.phase }], guard := none }) (v := ?v16) rfl rfl (by kernel_rfl) (by kernel_rfl) (by kernel_rfl) (fun _ _ _ h => h) (Or.inl ⟨by rfl, ?hy16⟩) (by assumption) ?rest16
  case hy16 =>
    intro w hSw
    go_simp
    first | done | with_reducible rfl
  try simp only [Act.put, List.setIfInBounds_toArray, List.set_cons_zero, List.set_cons_succ]
  refine wpAnyH_ready (rs := [16]) (by kernel_rfl) (by simp) ?_
  refine AllReadyH.cons (o := { dst := none, op := Op.store 68 (Operand.tmp 22) (Operand.tmp 19), type := 0, pos := "pager.go:235", after := #[{ on := 15, ground := Ground.data }, { on := 10, ground := Ground.data }, { on := 14, ground := Ground.chain }, { on := 0, ground := Ground.phase }, { on := 1, ground := Ground.phase }, { on := 2, ground := Ground.phase }, { on := 3, ground := Ground.phase }, { on := 4, ground := Ground.phase }, { on := 5, ground := Ground.phase }, { on := 6, ground := Ground.phase }, { on := 7, ground := Ground.phase }, { on := 8, ground := Ground.phase }, { on := 9, ground := Ground.phase }, { on := 10, ground := Ground.phase }, { on := 11, ground := Ground.phase }, { on := 12, ground := Ground.phase }, { on := 13, ground := Ground.phase }, { on := 14, ground := Ground.phase }], guard := none }) rfl (fun K hK => ?_) AllReadyH.nil
  go_simp
  refine hK.out _ _ (s6) (fun hHeld => ?_)
  clear hK K
  try simp only [Act.put, List.setIfInBounds_toArray, List.set_cons_zero, List.set_cons_succ]
  refine wpAnyH_done (by kernel_rfl) ?_ _
  go_wp2_with fail
  go_ret
  have z1 : w1.heap.size = w.heap.size + 1 := by rw [HW1.out]; simp
  have z2 : w1.heap.size ≤ w2.heap.size := HF2.out.size
  have z3 : w2.heap.size ≤ w3.heap.size := HF3.out.size
  have hs1 : w1.drew.heap.size = w1.heap.size := rfl
  have l1 : w1.heap.size < w2.heap.size := by
    obtain ⟨es, c, hm⟩ := HS2.out.isMap
    exact lt_of_at hm
  have n1 : ¬ w1.heap.size = x := by have := HX.out; omega
  have n2 : ¬ w2.heap.size = x := by have := HX.out; omega
  refine ⟨x, w1.heap.size, w2.heap.size, rfl, ⟨HB6.out, (HS2.out.stay HF3.out).keep HG6.out n1, HS3.out.keep HG6.out n2, by omega⟩, by rw [HX.out]; omega, by omega, by omega, ?_⟩
  exact (HF.out.trans HFX.out (fun _ _ f => f)).trans HG6.out (fun i hi e => by have := HX.out; omega)

end Go.Proofs.YtjkhcfdflcndkaaGreat.D
