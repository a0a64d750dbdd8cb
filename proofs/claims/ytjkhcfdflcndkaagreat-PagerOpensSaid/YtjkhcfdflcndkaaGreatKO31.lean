/-
  PagerOpens: what it computes. No condition beyond the sizes that are named.
-/
import Derived.Test.YtjkhcfdflcndkaaGreatKO30
import Derived.Test.YtjkhcfdflcndkaaGreatKO06
import Derived.BigQuiet
import Derived.Deep.RegionHeld3
namespace Go.Proofs.YtjkhcfdflcndkaaGreat.D
open Go.RowKit Go.Maps Go.Shelf
set_option linter.unusedVariables false
set_option linter.unusedSimpArgs false

theorem open_code {S : St} {f c : Int} : ((openP S f c).1 = none ∧ (openP S f c).2 ≠ 0) ∨ ∃ P, openP S f c = (some P, 0) := by
  unfold openP
  split
  · rename_i h; exact Or.inl ⟨rfl, h⟩
  · split
    · exact Or.inl ⟨rfl, by decide⟩
    · exact Or.inr ⟨_, rfl⟩
theorem format_code {S : St} {f c n : Int} : ((formatP S f c n).1 = none ∧ (formatP S f c n).2.2 ≠ 0) ∨ ∃ P, (formatP S f c n).1 = some P ∧ P = PSt.of f.toNat c.toNat (2, -1, n.toNat) ∧ pchk S f c n = 0 := by
  unfold formatP
  split
  · rename_i h; exact Or.inl ⟨rfl, h⟩
  · rename_i h
    split
    · exact Or.inl ⟨rfl, fun e => by cases e⟩
    · exact Or.inr ⟨_, rfl, rfl, by simpa using h⟩
theorem of_free (f c : Nat) (h : Nat × Int × Nat) : (PSt.of f c h).free = c := by
  have : ∀ i, (PSt.of f c h).freeTo i = i := by
    intro i
    induction i with
    | zero => rfl
    | succ i ih => rw [PSt.freeTo, if_neg (by simp [PSt.used, PSt.of, none_]), ih]
  exact this c

set_option maxHeartbeats 16000000 in
set_option maxRecDepth 100000 in
theorem opens_law (V : WV) (hV : WOk V) (sv : Value) (w : World) :
    Calls Tryz.prog 3 #[.agg #[.string (bs V.im), .int .i64 V.first, .int .i64 V.count, .int .i64 V.from_, sv]] w fun e w' => e = .returned (.bool true) ∧ Fr (fun _ => False) w w' := by
  obtain ⟨im, f, c, n⟩ := V
  obtain ⟨him, ⟨f1, f2⟩, ⟨c1, c2⟩, ⟨n1, n2⟩⟩ := hV
  simp only at him f1 f2 c1 c2 n1 n2 ⊢
  obtain ⟨w1, hw1⟩ : ∃ w1, w1 = w.alloc (.cells #[.string (bs im), .int .i64 f, .int .i64 c, .int .i64 n, sv] 24) := ⟨_, rfl⟩
  obtain ⟨x1, hx1⟩ : ∃ x1, x1 = w.heap.size := ⟨_, rfl⟩
  have HF1 := hid (show Fr (fun _ => False) w w1 from hw1 ▸ (Fr.refl _ w).alloc _)
  have hnew : w1.heap[x1]? = some (.cells #[.string (bs im), .int .i64 f, .int .i64 c, .int .i64 n, sv] 24) := by rw [hw1, hx1]; exact (MapKept.heap_alloc w _).1
  have HB := hid hnew
  have k0 : w1.cell? ⟨x1, 0, none⟩ = some (.string (bs im)) := cell_at hnew 0
  rw [hw1, hx1] at k0
  have HX1 := hid hx1
  have HW1 := hid hw1
  have HDK := hid (disks_c w1 im him)
  have HNUM := hid (⟨him, ⟨f1, f2⟩, ⟨c1, c2⟩, ⟨n1, n2⟩⟩ : im.length ≤ 9223372036854775807 ∧ (-9223372036854775808 ≤ f ∧ f ≤ 9223372036854775807) ∧ (-9223372036854775808 ≤ c ∧ c ≤ 9223372036854775807) ∧ (-9223372036854775808 ≤ n ∧ n ≤ 9223372036854775807))
  clear hnew hw1 hx1 him
  go_enter Tryz.func3, Tryz.ntmps3
  go_wp2_with fail
  rw [← HW1.out, ← HX1.out]
  refine HDK.out.mono ?_
  rintro e w2 ⟨g, bm, m, b1, b2, NN, rfl, hdj⟩
  have HDJ := hid hdj
  obtain ⟨S, hS⟩ : ∃ S, S = news (imgOf im) := ⟨_, rfl⟩
  rw [← hS] at HDJ
  have hb2 := HDJ.out.fr.at HB.out (fun f => f)
  have k1 : w2.cell? ⟨x1, 1, none⟩ = some (.int .i64 f) := cell_at hb2 1
  have k2 : w2.cell? ⟨x1, 2, none⟩ = some (.int .i64 c) := cell_at hb2 2
  have HB2 := hid hb2
  have HO := hid (popen_c w2 g bm S HDJ.out.at_ HDJ.out.ok f c f1 f2)
  unfold POpenC at HO
  clear hdj hS hb2 k0
  go_wp2_with fail
  refine HO.out.mono ?_
  intro e3 w3 hp3
  have HP3 := hid hp3
  have hf3 := hp3.1
  have HF3 := hid hf3
  clear HO hp3
  have hb3 := hf3.at HB2.out (fun f => f)
  have l1 : w3.cell? ⟨x1, 1, none⟩ = some (.int .i64 f) := cell_at hb3 1
  have l2 : w3.cell? ⟨x1, 2, none⟩ = some (.int .i64 c) := cell_at hb3 2
  have HB3 := hid hb3
  have HRO := hid (rpopen_c w3 m b1 b2 S (RC.stay HDJ.out.ra hf3) HDJ.out.rok f c f1 f2)
  unfold ROpenC at HRO
  clear hb3 hf3 k1 k2
  rcases open_code (S := S) (f := f) (c := c) with ⟨hop, hcode⟩ | ⟨P, hop⟩
  · have h3 := HP3.out.2.2 hop
    obtain ⟨C, hC⟩ : ∃ C, C = (openP S f c).2 := ⟨_, rfl⟩
    rw [← hC] at h3 hcode
    subst h3
    have qC : (C == 0) = false := by simpa using hcode
    have qD : (C != 0) = true := by simpa using hcode
    clear hcode
    have HOP := hid hop
    have HC := hid hC
    clear hop hC
    go_wp2_with fail
    refine HRO.out.mono ?_
    intro e4 w4 hp4
    have h4 := hp4.2.2 HOP.out
    rw [← HC.out] at h4
    subst h4
    have HF4 := hid hp4.1
    clear hp4 HRO
    go_wp2_with fail
    refine wp_region_held_drew (S := fun _ => True) (by kernel_rfl) (trivial) (fun hHeld => ?_)
    refine wpAnyH_ready (rs := [0]) (by kernel_rfl) (by simp) ?_
    refine AllReadyH.cons (o := { dst := some 35, op := Op.call { callee := Callee.value (Operand.func 8), args := #[], argTypes := #[] }, type := 4, pos := "law.go:81", after := #[], guard := none }) rfl (fun K hK => ?_) AllReadyH.nil
    go_simp
    refine (fixed_c _).mono ?_
    rintro e w5 ⟨rfl, hf5⟩
    have HF5 := hid hf5
    clear hf5
    go_wp2_with fail
    refine hK.out _ _ (trivial) (fun hHeld => ?_)
    clear hK K
    try simp only [Act.put, List.setIfInBounds_toArray, List.set_cons_zero, List.set_cons_succ]
    refine tkH (i := 1) (d := some 36) (oi := { dst := some 36, op := Op.unOp UnOp.not 4 (Operand.tmp 35), type := 4, pos := "law.go:81", after := #[{ on := 0, ground := Ground.data }], guard := none }) (v := ?v2) rfl rfl (by kernel_rfl) (by kernel_rfl) (by kernel_rfl) (fun _ _ _ h => h) (Or.inl ⟨by rfl, ?hy2⟩) (by assumption) ?rest2
    case hy2 =>
      intro w hSw
      go_simp
      first | done | with_reducible rfl
    try simp only [Act.put, List.setIfInBounds_toArray, List.set_cons_zero, List.set_cons_succ]
    refine tkH (i := 2) (d := some 37) (oi := { dst := some 37, op := Op.move (Operand.tmp 36), type := 4, pos := "law.go:81", after := #[{ on := 1, ground := Ground.data }, { on := 0, ground := Ground.chain }], guard := none }) (v := ?v3) rfl rfl (by kernel_rfl) (by kernel_rfl) (by kernel_rfl) (fun _ _ _ h => h) (Or.inl ⟨by rfl, ?hy3⟩) (by assumption) ?rest3
    case hy3 =>
      intro w hSw
      go_simp
      first | done | with_reducible rfl
    try simp only [Act.put, List.setIfInBounds_toArray, List.set_cons_zero, List.set_cons_succ]
    refine tkH (i := 3) (d := some 38) (oi := { dst := some 38, op := Op.move (Operand.tmp 6), type := 30, pos := "law.go:81", after := #[{ on := 2, ground := Ground.guard }], guard := some (2, false) }) (v := ?v4) rfl rfl (by kernel_rfl) (by kernel_rfl) (by kernel_rfl) (fun _ _ _ h => h) (Or.inl ⟨by rfl, ?hy4⟩) (by assumption) ?rest4
    case hy4 =>
      intro w hSw
      go_simp
      first | done | with_reducible rfl
    try simp only [Act.put, List.setIfInBounds_toArray, List.set_cons_zero, List.set_cons_succ]
    refine tkH (i := 4) (d := some 39) (oi := { dst := some 39, op := Op.move (Operand.tmp 8), type := 30, pos := "law.go:81", after := #[{ on := 2, ground := Ground.guard }], guard := some (2, false) }) (v := ?v5) rfl rfl (by kernel_rfl) (by kernel_rfl) (by kernel_rfl) (fun _ _ _ h => h) (Or.inl ⟨by rfl, ?hy5⟩) (by assumption) ?rest5
    case hy5 =>
      intro w hSw
      go_simp
      first | done | with_reducible rfl
    try simp only [Act.put, List.setIfInBounds_toArray, List.set_cons_zero, List.set_cons_succ]
    refine tkH (i := 5) (d := some 40) (oi := { dst := some 40, op := Op.binOp BinOp.neq 30 (Operand.tmp 38) (Operand.tmp 39) 30, type := 4, pos := "law.go:81", after := #[{ on := 3, ground := Ground.data }, { on := 4, ground := Ground.data }, { on := 2, ground := Ground.guard }], guard := some (2, false) }) (v := ?v6) rfl rfl (by kernel_rfl) (by kernel_rfl) (by kernel_rfl) (fun _ _ _ h => h) (Or.inl ⟨by rfl, ?hy6⟩) (by assumption) ?rest6
    case hy6 =>
      intro w hSw
      go_simp
      first | done | with_reducible rfl
    try simp only [Act.put, List.setIfInBounds_toArray, List.set_cons_zero, List.set_cons_succ]
    refine tkH (i := 6) (d := some 41) (oi := { dst := some 41, op := Op.pick (Operand.tmp 37) (Operand.const (Value.bool true)) (Operand.tmp 40), type := 4, pos := "law.go:81", after := #[{ on := 2, ground := Ground.data }, { on := 5, ground := Ground.data }], guard := none }) (v := ?v7) rfl rfl (by kernel_rfl) (by kernel_rfl) (by kernel_rfl) (fun _ _ _ h => h) (Or.inl ⟨by rfl, ?hy7⟩) (by assumption) ?rest7
    case hy7 =>
      intro w hSw
      go_simp
      first | done | with_reducible rfl
    try simp only [Act.put, List.setIfInBounds_toArray, List.set_cons_zero, List.set_cons_succ]
    refine tkH (i := 7) (d := some 42) (oi := { dst := some 42, op := Op.move (Operand.tmp 41), type := 4, pos := "law.go:81", after := #[{ on := 6, ground := Ground.data }, { on := 2, ground := Ground.chain }], guard := none }) (v := ?v8) rfl rfl (by kernel_rfl) (by kernel_rfl) (by kernel_rfl) (fun _ _ _ h => h) (Or.inl ⟨by rfl, ?hy8⟩) (by assumption) ?rest8
    case hy8 =>
      intro w hSw
      go_simp
      first | done | with_reducible rfl
    try simp only [Act.put, List.setIfInBounds_toArray, List.set_cons_zero, List.set_cons_succ]
    refine tkH (i := 8) (d := some 43) (oi := { dst := some 43, op := Op.move (Operand.tmp 5), type := 29, pos := "law.go:81", after := #[{ on := 7, ground := Ground.guard }], guard := some (7, false) }) (v := ?v9) rfl rfl (by kernel_rfl) (by kernel_rfl) (by kernel_rfl) (fun _ _ _ h => h) (Or.inl ⟨by rfl, ?hy9⟩) (by assumption) ?rest9
    case hy9 =>
      intro w hSw
      go_simp
      first | done | with_reducible rfl
    try simp only [Act.put, List.setIfInBounds_toArray, List.set_cons_zero, List.set_cons_succ]
    refine tkH (i := 9) (d := some 44) (oi := { dst := some 44, op := Op.binOp BinOp.eql 29 (Operand.tmp 43) (Operand.const (Value.pointer none)) 29, type := 4, pos := "law.go:81", after := #[{ on := 8, ground := Ground.data }, { on := 7, ground := Ground.guard }], guard := some (7, false) }) (v := ?v10) rfl rfl (by kernel_rfl) (by kernel_rfl) (by kernel_rfl) (fun _ _ _ h => h) (Or.inl ⟨by rfl, ?hy10⟩) (by assumption) ?rest10
    case hy10 =>
      intro w hSw
      go_simp
      first | done | with_reducible rfl
    try simp only [Act.put, List.setIfInBounds_toArray, List.set_cons_zero, List.set_cons_succ]
    refine tkH (i := 10) (d := some 45) (oi := { dst := some 45, op := Op.move (Operand.tmp 6), type := 30, pos := "law.go:81", after := #[{ on := 7, ground := Ground.guard }], guard := some (7, false) }) (v := ?v11) rfl rfl (by kernel_rfl) (by kernel_rfl) (by kernel_rfl) (fun _ _ _ h => h) (Or.inl ⟨by rfl, ?hy11⟩) (by assumption) ?rest11
    case hy11 =>
      intro w hSw
      go_simp
      first | done | with_reducible rfl
    try simp only [Act.put, List.setIfInBounds_toArray, List.set_cons_zero, List.set_cons_succ]
    refine tkH (i := 11) (d := some 46) (oi := { dst := some 46, op := Op.binOp BinOp.neq 30 (Operand.tmp 45) (Operand.const (Value.int IntKind.i64 0)) 30, type := 4, pos := "law.go:81", after := #[{ on := 10, ground := Ground.data }, { on := 7, ground := Ground.guard }], guard := some (7, false) }) (v := ?v12) rfl rfl (by kernel_rfl) (by kernel_rfl) (by kernel_rfl) (fun _ _ _ h => h) (Or.inl ⟨by rfl, ?hy12⟩) (by assumption) ?rest12
    case hy12 =>
      intro w hSw
      go_simp
      first | done | with_reducible rfl
    try simp only [Act.put, List.setIfInBounds_toArray, List.set_cons_zero, List.set_cons_succ]
    refine tkH (i := 12) (d := some 47) (oi := { dst := some 47, op := Op.binOp BinOp.neq 4 (Operand.tmp 44) (Operand.tmp 46) 4, type := 4, pos := "law.go:81", after := #[{ on := 9, ground := Ground.data }, { on := 11, ground := Ground.data }, { on := 7, ground := Ground.guard }], guard := some (7, false) }) (v := ?v13) rfl rfl (by kernel_rfl) (by kernel_rfl) (by kernel_rfl) (fun _ _ _ h => h) (Or.inl ⟨by rfl, ?hy13⟩) (by assumption) ?rest13
    case hy13 =>
      intro w hSw
      go_simp
      first | done | with_reducible rfl
    try simp only [Act.put, List.setIfInBounds_toArray, List.set_cons_zero, List.set_cons_succ]
    refine tkH (i := 13) (d := some 48) (oi := { dst := some 48, op := Op.pick (Operand.tmp 42) (Operand.const (Value.bool true)) (Operand.tmp 47), type := 4, pos := "law.go:81", after := #[{ on := 7, ground := Ground.data }, { on := 12, ground := Ground.data }], guard := none }) (v := ?v14) rfl rfl (by kernel_rfl) (by kernel_rfl) (by kernel_rfl) (fun _ _ _ h => h) (Or.inl ⟨by rfl, ?hy14⟩) (by assumption) ?rest14
    case hy14 =>
      intro w hSw
      go_simp
      first | done | with_reducible rfl
    try simp only [Act.put, List.setIfInBounds_toArray, List.set_cons_zero, List.set_cons_succ]
    refine tkH (i := 14) (d := some 49) (oi := { dst := some 49, op := Op.move (Operand.tmp 48), type := 4, pos := "law.go:81", after := #[{ on := 13, ground := Ground.data }, { on := 7, ground := Ground.chain }], guard := none }) (v := ?v15) rfl rfl (by kernel_rfl) (by kernel_rfl) (by kernel_rfl) (fun _ _ _ h => h) (Or.inl ⟨by rfl, ?hy15⟩) (by assumption) ?rest15
    case hy15 =>
      intro w hSw
      go_simp
      first | done | with_reducible rfl
    try simp only [Act.put, List.setIfInBounds_toArray, List.set_cons_zero, List.set_cons_succ]
    refine tkH (i := 15) (d := some 50) (oi := { dst := some 50, op := Op.move (Operand.tmp 5), type := 29, pos := "law.go:81", after := #[{ on := 14, ground := Ground.guard }], guard := some (14, false) }) (v := ?v16) rfl rfl (by kernel_rfl) (by kernel_rfl) (by kernel_rfl) (fun _ _ _ h => h) (Or.inl ⟨by rfl, ?hy16⟩) (by assumption) ?rest16
    case hy16 =>
      intro w hSw
      go_simp
      first | done | with_reducible rfl
    try simp only [Act.put, List.setIfInBounds_toArray, List.set_cons_zero, List.set_cons_succ]
    refine tkH (i := 16) (d := some 51) (oi := { dst := some 51, op := Op.binOp BinOp.neq 29 (Operand.tmp 50) (Operand.const (Value.pointer none)) 29, type := 4, pos := "law.go:81", after := #[{ on := 15, ground := Ground.data }, { on := 14, ground := Ground.guard }], guard := some (14, false) }) (v := ?v17) rfl rfl (by kernel_rfl) (by kernel_rfl) (by kernel_rfl) (fun _ _ _ h => h) (Or.inl ⟨by rfl, ?hy17⟩) (by assumption) ?rest17
    case hy17 =>
      intro w hSw
      go_simp
      first | done | with_reducible rfl
    try simp only [Act.put, List.setIfInBounds_toArray, List.set_cons_zero, List.set_cons_succ]
    refine tkH (i := 17) (d := some 52) (oi := { dst := some 52, op := Op.move (Operand.tmp 51), type := 4, pos := "law.go:81", after := #[{ on := 16, ground := Ground.data }, { on := 14, ground := Ground.chain }, { on := 14, ground := Ground.guard }], guard := some (14, false) }) (v := ?v18) rfl rfl (by kernel_rfl) (by kernel_rfl) (by kernel_rfl) (fun _ _ _ h => h) (Or.inl ⟨by rfl, ?hy18⟩) (by assumption) ?rest18
    case hy18 =>
      intro w hSw
      go_simp
      first | done | with_reducible rfl
    try simp only [Act.put, List.setIfInBounds_toArray, List.set_cons_zero, List.set_cons_succ]
    refine tkH (i := 18) (d := some 53) (oi := { dst := some 53, op := Op.move (Operand.tmp 7), type := 33, pos := "law.go:81", after := #[{ on := 17, ground := Ground.guard }], guard := some (17, true) }) (v := undef) rfl rfl (by kernel_rfl) (by kernel_rfl) (by kernel_rfl) (fun _ _ _ h => h) (Or.inr ⟨by rfl, rfl⟩) (by assumption) ?_
    try simp only [Act.put, List.setIfInBounds_toArray, List.set_cons_zero, List.set_cons_succ]
    refine tkH (i := 19) (d := some 54) (oi := { dst := some 54, op := Op.binOp BinOp.neq 33 (Operand.tmp 53) (Operand.const (Value.pointer none)) 33, type := 4, pos := "law.go:81", after := #[{ on := 18, ground := Ground.data }, { on := 17, ground := Ground.guard }], guard := some (17, true) }) (v := undef) rfl rfl (by kernel_rfl) (by kernel_rfl) (by kernel_rfl) (fun _ _ _ h => h) (Or.inr ⟨by rfl, rfl⟩) (by assumption) ?_
    try simp only [Act.put, List.setIfInBounds_toArray, List.set_cons_zero, List.set_cons_succ]
    refine tkH (i := 20) (d := some 55) (oi := { dst := some 55, op := Op.pick (Operand.tmp 52) (Operand.tmp 54) (Operand.const (Value.bool false)), type := 4, pos := "law.go:81", after := #[{ on := 17, ground := Ground.data }, { on := 19, ground := Ground.data }, { on := 14, ground := Ground.guard }], guard := some (14, false) }) (v := ?v21) rfl rfl (by kernel_rfl) (by kernel_rfl) (by kernel_rfl) (fun _ _ _ h => h) (Or.inl ⟨by rfl, ?hy21⟩) (by assumption) ?rest21
    case hy21 =>
      intro w hSw
      go_simp
      first | done | with_reducible rfl
    try simp only [Act.put, List.setIfInBounds_toArray, List.set_cons_zero, List.set_cons_succ]
    refine tkH (i := 21) (d := some 56) (oi := { dst := some 56, op := Op.move (Operand.tmp 55), type := 4, pos := "law.go:81", after := #[{ on := 20, ground := Ground.data }, { on := 17, ground := Ground.chain }, { on := 14, ground := Ground.guard }], guard := some (14, false) }) (v := ?v22) rfl rfl (by kernel_rfl) (by kernel_rfl) (by kernel_rfl) (fun _ _ _ h => h) (Or.inl ⟨by rfl, ?hy22⟩) (by assumption) ?rest22
    case hy22 =>
      intro w hSw
      go_simp
      first | done | with_reducible rfl
    try simp only [Act.put, List.setIfInBounds_toArray, List.set_cons_zero, List.set_cons_succ]
    refine tkH (i := 22) (d := some 57) (oi := { dst := some 57, op := Op.move (Operand.tmp 5), type := 29, pos := "law.go:81", after := #[{ on := 21, ground := Ground.guard }], guard := some (21, true) }) (v := undef) rfl rfl (by kernel_rfl) (by kernel_rfl) (by kernel_rfl) (fun _ _ _ h => h) (Or.inr ⟨by rfl, rfl⟩) (by assumption) ?_
    try simp only [Act.put, List.setIfInBounds_toArray, List.set_cons_zero, List.set_cons_succ]
    refine tkH (i := 23) (d := some 58) (oi := { dst := some 58, op := Op.call { callee := Callee.value (Operand.func 9), args := #[Operand.tmp 57], argTypes := #[29] }, type := 3, pos := "law.go:81", after := #[{ on := 22, ground := Ground.data }, { on := 21, ground := Ground.chain }, { on := 21, ground := Ground.guard }], guard := some (21, true) }) (v := undef) rfl rfl (by kernel_rfl) (by kernel_rfl) (by kernel_rfl) (fun _ _ _ h => h) (Or.inr ⟨by rfl, rfl⟩) (by assumption) ?_
    try simp only [Act.put, List.setIfInBounds_toArray, List.set_cons_zero, List.set_cons_succ]
    refine tkH (i := 24) (d := some 59) (oi := { dst := some 59, op := Op.move (Operand.tmp 7), type := 33, pos := "law.go:81", after := #[{ on := 21, ground := Ground.guard }], guard := some (21, true) }) (v := undef) rfl rfl (by kernel_rfl) (by kernel_rfl) (by kernel_rfl) (fun _ _ _ h => h) (Or.inr ⟨by rfl, rfl⟩) (by assumption) ?_
    try simp only [Act.put, List.setIfInBounds_toArray, List.set_cons_zero, List.set_cons_succ]
    refine tkH (i := 25) (d := some 60) (oi := { dst := some 60, op := Op.nilCheck (Operand.tmp 59), type := 0, pos := "law.go:81", after := #[{ on := 24, ground := Ground.data }, { on := 21, ground := Ground.guard }], guard := some (21, true) }) (v := undef) rfl rfl (by kernel_rfl) (by kernel_rfl) (by kernel_rfl) (fun _ _ _ h => h) (Or.inr ⟨by rfl, rfl⟩) (by assumption) ?_
    try simp only [Act.put, List.setIfInBounds_toArray, List.set_cons_zero, List.set_cons_succ]
    refine tkH (i := 26) (d := some 61) (oi := { dst := some 61, op := Op.fieldAddr 40 (Operand.tmp 60) 3, type := 0, pos := "law.go:81", after := #[{ on := 25, ground := Ground.data }, { on := 21, ground := Ground.guard }], guard := some (21, true) }) (v := undef) rfl rfl (by kernel_rfl) (by kernel_rfl) (by kernel_rfl) (fun _ _ _ h => h) (Or.inr ⟨by rfl, rfl⟩) (by assumption) ?_
    try simp only [Act.put, List.setIfInBounds_toArray, List.set_cons_zero, List.set_cons_succ]
    refine tkH (i := 27) (d := some 62) (oi := { dst := some 62, op := Op.load 3 (Operand.tmp 61), type := 3, pos := "law.go:81", after := #[{ on := 26, ground := Ground.data }, { on := 21, ground := Ground.guard }], guard := some (21, true) }) (v := undef) rfl rfl (by kernel_rfl) (by kernel_rfl) (by kernel_rfl) (fun _ _ _ h => h) (Or.inr ⟨by rfl, rfl⟩) (by assumption) ?_
    try simp only [Act.put, List.setIfInBounds_toArray, List.set_cons_zero, List.set_cons_succ]
    refine tkH (i := 28) (d := some 63) (oi := { dst := some 63, op := Op.binOp BinOp.neq 3 (Operand.tmp 58) (Operand.tmp 62) 3, type := 4, pos := "law.go:81", after := #[{ on := 23, ground := Ground.data }, { on := 27, ground := Ground.data }, { on := 21, ground := Ground.guard }], guard := some (21, true) }) (v := undef) rfl rfl (by kernel_rfl) (by kernel_rfl) (by kernel_rfl) (fun _ _ _ h => h) (Or.inr ⟨by rfl, rfl⟩) (by assumption) ?_
    try simp only [Act.put, List.setIfInBounds_toArray, List.set_cons_zero, List.set_cons_succ]
    refine tkH (i := 29) (d := some 64) (oi := { dst := some 64, op := Op.move (Operand.tmp 63), type := 4, pos := "law.go:81", after := #[{ on := 28, ground := Ground.data }, { on := 23, ground := Ground.chain }, { on := 21, ground := Ground.guard }], guard := some (21, true) }) (v := undef) rfl rfl (by kernel_rfl) (by kernel_rfl) (by kernel_rfl) (fun _ _ _ h => h) (Or.inr ⟨by rfl, rfl⟩) (by assumption) ?_
    try simp only [Act.put, List.setIfInBounds_toArray, List.set_cons_zero, List.set_cons_succ]
    refine tkH (i := 30) (d := some 65) (oi := { dst := some 65, op := Op.move (Operand.tmp 5), type := 29, pos := "law.go:81", after := #[{ on := 29, ground := Ground.guard }], guard := some (29, false) }) (v := undef) rfl rfl (by kernel_rfl) (by kernel_rfl) (by kernel_rfl) (fun _ _ _ h => h) (Or.inr ⟨by rfl, rfl⟩) (by assumption) ?_
    try simp only [Act.put, List.setIfInBounds_toArray, List.set_cons_zero, List.set_cons_succ]
    refine tkH (i := 31) (d := some 66) (oi := { dst := some 66, op := Op.call { callee := Callee.value (Operand.func 10), args := #[Operand.tmp 65], argTypes := #[29] }, type := 3, pos := "law.go:81", after := #[{ on := 30, ground := Ground.data }, { on := 29, ground := Ground.chain }, { on := 29, ground := Ground.guard }], guard := some (29, false) }) (v := undef) rfl rfl (by kernel_rfl) (by kernel_rfl) (by kernel_rfl) (fun _ _ _ h => h) (Or.inr ⟨by rfl, rfl⟩) (by assumption) ?_
    try simp only [Act.put, List.setIfInBounds_toArray, List.set_cons_zero, List.set_cons_succ]
    refine tkH (i := 32) (d := some 67) (oi := { dst := some 67, op := Op.move (Operand.tmp 7), type := 33, pos := "law.go:81", after := #[{ on := 29, ground := Ground.guard }], guard := some (29, false) }) (v := undef) rfl rfl (by kernel_rfl) (by kernel_rfl) (by kernel_rfl) (fun _ _ _ h => h) (Or.inr ⟨by rfl, rfl⟩) (by assumption) ?_
    try simp only [Act.put, List.setIfInBounds_toArray, List.set_cons_zero, List.set_cons_succ]
    refine tkH (i := 33) (d := some 68) (oi := { dst := some 68, op := Op.nilCheck (Operand.tmp 67), type := 0, pos := "law.go:81", after := #[{ on := 32, ground := Ground.data }, { on := 29, ground := Ground.guard }], guard := some (29, false) }) (v := undef) rfl rfl (by kernel_rfl) (by kernel_rfl) (by kernel_rfl) (fun _ _ _ h => h) (Or.inr ⟨by rfl, rfl⟩) (by assumption) ?_
    try simp only [Act.put, List.setIfInBounds_toArray, List.set_cons_zero, List.set_cons_succ]
    refine tkH (i := 34) (d := some 69) (oi := { dst := some 69, op := Op.fieldAddr 40 (Operand.tmp 68) 4, type := 0, pos := "law.go:81", after := #[{ on := 33, ground := Ground.data }, { on := 29, ground := Ground.guard }], guard := some (29, false) }) (v := undef) rfl rfl (by kernel_rfl) (by kernel_rfl) (by kernel_rfl) (fun _ _ _ h => h) (Or.inr ⟨by rfl, rfl⟩) (by assumption) ?_
    try simp only [Act.put, List.setIfInBounds_toArray, List.set_cons_zero, List.set_cons_succ]
    refine tkH (i := 35) (d := some 70) (oi := { dst := some 70, op := Op.load 3 (Operand.tmp 69), type := 3, pos := "law.go:81", after := #[{ on := 34, ground := Ground.data }, { on := 29, ground := Ground.guard }], guard := some (29, false) }) (v := undef) rfl rfl (by kernel_rfl) (by kernel_rfl) (by kernel_rfl) (fun _ _ _ h => h) (Or.inr ⟨by rfl, rfl⟩) (by assumption) ?_
    try simp only [Act.put, List.setIfInBounds_toArray, List.set_cons_zero, List.set_cons_succ]
    refine tkH (i := 36) (d := some 71) (oi := { dst := some 71, op := Op.binOp BinOp.neq 3 (Operand.tmp 66) (Operand.tmp 70) 3, type := 4, pos := "law.go:81", after := #[{ on := 31, ground := Ground.data }, { on := 35, ground := Ground.data }, { on := 29, ground := Ground.guard }], guard := some (29, false) }) (v := undef) rfl rfl (by kernel_rfl) (by kernel_rfl) (by kernel_rfl) (fun _ _ _ h => h) (Or.inr ⟨by rfl, rfl⟩) (by assumption) ?_
    try simp only [Act.put, List.setIfInBounds_toArray, List.set_cons_zero, List.set_cons_succ]
    refine tkH (i := 37) (d := some 72) (oi := { dst := some 72, op := Op.pick (Operand.tmp 64) (Operand.const (Value.bool true)) (Operand.tmp 71), type := 4, pos := "law.go:81", after := #[{ on := 29, ground := Ground.data }, { on := 36, ground := Ground.data }, { on := 21, ground := Ground.guard }], guard := some (21, true) }) (v := undef) rfl rfl (by kernel_rfl) (by kernel_rfl) (by kernel_rfl) (fun _ _ _ h => h) (Or.inr ⟨by rfl, rfl⟩) (by assumption) ?_
    try simp only [Act.put, List.setIfInBounds_toArray, List.set_cons_zero, List.set_cons_succ]
    refine tkH (i := 38) (d := some 73) (oi := { dst := some 73, op := Op.move (Operand.tmp 72), type := 4, pos := "law.go:81", after := #[{ on := 37, ground := Ground.data }, { on := 31, ground := Ground.chain }, { on := 21, ground := Ground.guard }], guard := some (21, true) }) (v := undef) rfl rfl (by kernel_rfl) (by kernel_rfl) (by kernel_rfl) (fun _ _ _ h => h) (Or.inr ⟨by rfl, rfl⟩) (by assumption) ?_
    try simp only [Act.put, List.setIfInBounds_toArray, List.set_cons_zero, List.set_cons_succ]
    refine tkH (i := 39) (d := some 74) (oi := { dst := some 74, op := Op.move (Operand.tmp 5), type := 29, pos := "law.go:81", after := #[{ on := 38, ground := Ground.guard }], guard := some (38, false) }) (v := undef) rfl rfl (by kernel_rfl) (by kernel_rfl) (by kernel_rfl) (fun _ _ _ h => h) (Or.inr ⟨by rfl, rfl⟩) (by assumption) ?_
    try simp only [Act.put, List.setIfInBounds_toArray, List.set_cons_zero, List.set_cons_succ]
    refine tkH (i := 40) (d := some 75) (oi := { dst := some 75, op := Op.call { callee := Callee.value (Operand.func 11), args := #[Operand.tmp 74], argTypes := #[29] }, type := 3, pos := "law.go:81", after := #[{ on := 39, ground := Ground.data }, { on := 38, ground := Ground.chain }, { on := 38, ground := Ground.guard }], guard := some (38, false) }) (v := undef) rfl rfl (by kernel_rfl) (by kernel_rfl) (by kernel_rfl) (fun _ _ _ h => h) (Or.inr ⟨by rfl, rfl⟩) (by assumption) ?_
    try simp only [Act.put, List.setIfInBounds_toArray, List.set_cons_zero, List.set_cons_succ]
    refine tkH (i := 41) (d := some 76) (oi := { dst := some 76, op := Op.move (Operand.tmp 7), type := 33, pos := "law.go:81", after := #[{ on := 38, ground := Ground.guard }], guard := some (38, false) }) (v := undef) rfl rfl (by kernel_rfl) (by kernel_rfl) (by kernel_rfl) (fun _ _ _ h => h) (Or.inr ⟨by rfl, rfl⟩) (by assumption) ?_
    try simp only [Act.put, List.setIfInBounds_toArray, List.set_cons_zero, List.set_cons_succ]
    refine tkH (i := 42) (d := some 77) (oi := { dst := some 77, op := Op.nilCheck (Operand.tmp 76), type := 0, pos := "law.go:81", after := #[{ on := 41, ground := Ground.data }, { on := 38, ground := Ground.guard }], guard := some (38, false) }) (v := undef) rfl rfl (by kernel_rfl) (by kernel_rfl) (by kernel_rfl) (fun _ _ _ h => h) (Or.inr ⟨by rfl, rfl⟩) (by assumption) ?_
    try simp only [Act.put, List.setIfInBounds_toArray, List.set_cons_zero, List.set_cons_succ]
    refine tkH (i := 43) (d := some 78) (oi := { dst := some 78, op := Op.fieldAddr 40 (Operand.tmp 77) 5, type := 0, pos := "law.go:81", after := #[{ on := 42, ground := Ground.data }, { on := 38, ground := Ground.guard }], guard := some (38, false) }) (v := undef) rfl rfl (by kernel_rfl) (by kernel_rfl) (by kernel_rfl) (fun _ _ _ h => h) (Or.inr ⟨by rfl, rfl⟩) (by assumption) ?_
    try simp only [Act.put, List.setIfInBounds_toArray, List.set_cons_zero, List.set_cons_succ]
    refine tkH (i := 44) (d := some 79) (oi := { dst := some 79, op := Op.load 3 (Operand.tmp 78), type := 3, pos := "law.go:81", after := #[{ on := 43, ground := Ground.data }, { on := 38, ground := Ground.guard }], guard := some (38, false) }) (v := undef) rfl rfl (by kernel_rfl) (by kernel_rfl) (by kernel_rfl) (fun _ _ _ h => h) (Or.inr ⟨by rfl, rfl⟩) (by assumption) ?_
    try simp only [Act.put, List.setIfInBounds_toArray, List.set_cons_zero, List.set_cons_succ]
    refine tkH (i := 45) (d := some 80) (oi := { dst := some 80, op := Op.binOp BinOp.neq 3 (Operand.tmp 75) (Operand.tmp 79) 3, type := 4, pos := "law.go:81", after := #[{ on := 40, ground := Ground.data }, { on := 44, ground := Ground.data }, { on := 38, ground := Ground.guard }], guard := some (38, false) }) (v := undef) rfl rfl (by kernel_rfl) (by kernel_rfl) (by kernel_rfl) (fun _ _ _ h => h) (Or.inr ⟨by rfl, rfl⟩) (by assumption) ?_
    try simp only [Act.put, List.setIfInBounds_toArray, List.set_cons_zero, List.set_cons_succ]
    refine tkH (i := 46) (d := some 81) (oi := { dst := some 81, op := Op.pick (Operand.tmp 73) (Operand.const (Value.bool true)) (Operand.tmp 80), type := 4, pos := "law.go:81", after := #[{ on := 38, ground := Ground.data }, { on := 45, ground := Ground.data }, { on := 21, ground := Ground.guard }], guard := some (21, true) }) (v := undef) rfl rfl (by kernel_rfl) (by kernel_rfl) (by kernel_rfl) (fun _ _ _ h => h) (Or.inr ⟨by rfl, rfl⟩) (by assumption) ?_
    try simp only [Act.put, List.setIfInBounds_toArray, List.set_cons_zero, List.set_cons_succ]
    refine tkH (i := 47) (d := some 82) (oi := { dst := some 82, op := Op.pick (Operand.tmp 56) (Operand.tmp 81) (Operand.const (Value.bool false)), type := 4, pos := "law.go:81", after := #[{ on := 21, ground := Ground.data }, { on := 46, ground := Ground.data }, { on := 14, ground := Ground.guard }], guard := some (14, false) }) (v := ?v48) rfl rfl (by kernel_rfl) (by kernel_rfl) (by kernel_rfl) (fun _ _ _ h => h) (Or.inl ⟨by rfl, ?hy48⟩) (by assumption) ?rest48
    case hy48 =>
      intro w hSw
      go_simp
      first | done | with_reducible rfl
    try simp only [Act.put, List.setIfInBounds_toArray, List.set_cons_zero, List.set_cons_succ]
    refine tkH (i := 48) (d := some 83) (oi := { dst := some 83, op := Op.pick (Operand.tmp 49) (Operand.const (Value.bool true)) (Operand.tmp 82), type := 4, pos := "law.go:81", after := #[{ on := 14, ground := Ground.data }, { on := 47, ground := Ground.data }], guard := none }) (v := ?v49) rfl rfl (by kernel_rfl) (by kernel_rfl) (by kernel_rfl) (fun _ _ _ h => h) (Or.inl ⟨by rfl, ?hy49⟩) (by assumption) ?rest49
    case hy49 =>
      intro w hSw
      go_simp
      first | done | with_reducible rfl
    try simp only [Act.put, List.setIfInBounds_toArray, List.set_cons_zero, List.set_cons_succ]
    refine wpAnyH_done (by kernel_rfl) ?_ _
    have HX3 := hid (HF4.out.drew.trans HF5.out (fun _ _ f => f))
    have hbx := HX3.out.at HB3.out (fun f => f)
    have m1 : w5.cell? ⟨x1, 1, none⟩ = some (.int .i64 f) := cell_at hbx 1
    have m2 : w5.cell? ⟨x1, 2, none⟩ = some (.int .i64 c) := cell_at hbx 2
    have m3 : w5.cell? ⟨x1, 3, none⟩ = some (.int .i64 n) := cell_at hbx 3
    have HBX := hid hbx
    have HAX := hid ((HDJ.out.at_.stay HF3.out).stay HX3.out)
    have HRX := hid (RC.stay (RC.stay HDJ.out.ra HF3.out) HX3.out)
    have HPF := hid (pformat_c _ g bm S HAX.out HDJ.out.ok f c n f1 f2)
    unfold PFmtC at HPF
    clear hbx
    go_wp2_with fail
    refine HPF.out.mono ?_
    intro e8 w8 hp8
    have HP8 := hid hp8
    have hlo := HDJ.out.low
    have hx0 : x1 < w1.heap.size := by rw [HW1.out, HX1.out]; simp
    have HXN := hid (⟨by omega, by omega, by omega, by omega, by omega⟩ : x1 ≠ g ∧ x1 ≠ bm ∧ x1 ≠ m ∧ x1 ≠ b1 ∧ x1 ≠ b2)
    have HR8 := hid (RC.beside HRX.out HAX.out hp8.1)
    have hb8 := hp8.1.at HBX.out (by have := HXN.out; omega)
    have j1 : w8.cell? ⟨x1, 1, none⟩ = some (.int .i64 f) := cell_at hb8 1
    have j2 : w8.cell? ⟨x1, 2, none⟩ = some (.int .i64 c) := cell_at hb8 2
    have j3 : w8.cell? ⟨x1, 3, none⟩ = some (.int .i64 n) := cell_at hb8 3
    have HB8 := hid hb8
    have HRF := hid (rpformat_c w8 m b1 b2 S HR8.out HDJ.out.rok f c n f1 f2)
    unfold RFmtC at HRF
    have HOK8 := hid (format_ok HDJ.out.ok f c n)
    clear hp8 hlo hx0 hb8 HPF m1 m2 m3
    rcases format_code (S := S) (f := f) (c := c) (n := n) with ⟨hfp, hfc⟩ | ⟨P2, hfp, hP2, hpc⟩
    · obtain ⟨h8, bm2, hA8, hbm2⟩ := HP8.out.2.2 hfp
      obtain ⟨C2, hC2⟩ : ∃ C, C = (formatP S f c n).2.2 := ⟨_, rfl⟩
      rw [← hC2] at h8 hfc
      subst h8
      have HA8 := hid hA8
      have HBM := hid hbm2
      have HFP := hid hfp
      have HC2 := hid hC2
      have tC : (C2 == 0) = false := by simpa using hfc
      have tD : (C2 != 0) = true := by simpa using hfc
      clear hA8 hbm2 hfp hC2 hfc
      go_wp2_with fail
      refine HRF.out.mono ?_
      intro e9 w9 hp9
      obtain ⟨h9, ht9⟩ := hp9.2.2 HFP.out
      rw [← HC2.out] at h9
      subst h9
      have HT9 := hid ht9
      clear hp9 ht9 HRF j1 j2 j3
      go_wp2_with fail
      obtain ⟨⟨u1, u2, hra9, hu1, hu2⟩, hf9⟩ := HT9.out
      have HR9 := hid hra9
      have HA9 := hid (HA8.out.besideR HR8.out hf9)
      have h0 : Fr (fun _ => False) w9 w9.drew := (Fr.refl _ w9).drew
      have HFIN := hid (fun (W : World) (hf : Fr (fun _ => False) w9 W) => show Fr (fun _ => False) w W by
        have hlo := HDJ.out.low
        have hx1 : w.heap.size ≤ w1.heap.size := HF1.out.size
        exact ((((HF1.out.trans HDJ.out.fr (fun _ _ f => f)).trans (HF3.out.trans HX3.out (fun _ _ f => f)) (fun _ _ f => f)).trans HP8.out.1 (fun i hi e => by omega)).trans hf9 (fun i hi e => by omega)).trans hf (fun _ _ f => f))
      clear hra9 hu1 hu2
      refine wp_region_held_drew (S := fun _ => True) (by kernel_rfl) (trivial) (fun hHeld => ?_)
      refine tkH (i := 0) (d := some 106) (oi := { dst := some 106, op := Op.move (Operand.tmp 6), type := 30, pos := "law.go:86", after := #[], guard := none }) (v := ?v111) rfl rfl (by kernel_rfl) (by kernel_rfl) (by kernel_rfl) (fun _ _ _ h => h) (Or.inl ⟨by rfl, ?hy111⟩) (by assumption) ?rest111
      case hy111 =>
        intro w hSw
        go_simp
        first | done | with_reducible rfl
      try simp only [Act.put, List.setIfInBounds_toArray, List.set_cons_zero, List.set_cons_succ]
      refine tkH (i := 1) (d := some 107) (oi := { dst := some 107, op := Op.move (Operand.tmp 8), type := 30, pos := "law.go:86", after := #[], guard := none }) (v := ?v112) rfl rfl (by kernel_rfl) (by kernel_rfl) (by kernel_rfl) (fun _ _ _ h => h) (Or.inl ⟨by rfl, ?hy112⟩) (by assumption) ?rest112
      case hy112 =>
        intro w hSw
        go_simp
        first | done | with_reducible rfl
      try simp only [Act.put, List.setIfInBounds_toArray, List.set_cons_zero, List.set_cons_succ]
      refine tkH (i := 2) (d := some 108) (oi := { dst := some 108, op := Op.binOp BinOp.eql 30 (Operand.tmp 106) (Operand.tmp 107) 30, type := 4, pos := "law.go:86", after := #[{ on := 0, ground := Ground.data }, { on := 1, ground := Ground.data }], guard := none }) (v := ?v113) rfl rfl (by kernel_rfl) (by kernel_rfl) (by kernel_rfl) (fun _ _ _ h => h) (Or.inl ⟨by rfl, ?hy113⟩) (by assumption) ?rest113
      case hy113 =>
        intro w hSw
        go_simp
        first | done | with_reducible rfl
      try simp only [Act.put, List.setIfInBounds_toArray, List.set_cons_zero, List.set_cons_succ]
      refine tkH (i := 3) (d := some 109) (oi := { dst := some 109, op := Op.move (Operand.tmp 108), type := 4, pos := "law.go:86", after := #[{ on := 2, ground := Ground.data }], guard := none }) (v := ?v114) rfl rfl (by kernel_rfl) (by kernel_rfl) (by kernel_rfl) (fun _ _ _ h => h) (Or.inl ⟨by rfl, ?hy114⟩) (by assumption) ?rest114
      case hy114 =>
        intro w hSw
        go_simp
        first | done | with_reducible rfl
      try simp only [Act.put, List.setIfInBounds_toArray, List.set_cons_zero, List.set_cons_succ]
      refine tkH (i := 4) (d := some 110) (oi := { dst := some 110, op := Op.move (Operand.tmp 5), type := 29, pos := "law.go:86", after := #[{ on := 3, ground := Ground.guard }], guard := some (3, true) }) (v := ?v115) rfl rfl (by kernel_rfl) (by kernel_rfl) (by kernel_rfl) (fun _ _ _ h => h) (Or.inl ⟨by rfl, ?hy115⟩) (by assumption) ?rest115
      case hy115 =>
        intro w hSw
        go_simp
        first | done | with_reducible rfl
      try simp only [Act.put, List.setIfInBounds_toArray, List.set_cons_zero, List.set_cons_succ]
      refine tkH (i := 5) (d := some 111) (oi := { dst := some 111, op := Op.binOp BinOp.eql 29 (Operand.tmp 110) (Operand.const (Value.pointer none)) 29, type := 4, pos := "law.go:86", after := #[{ on := 4, ground := Ground.data }, { on := 3, ground := Ground.guard }], guard := some (3, true) }) (v := ?v116) rfl rfl (by kernel_rfl) (by kernel_rfl) (by kernel_rfl) (fun _ _ _ h => h) (Or.inl ⟨by rfl, ?hy116⟩) (by assumption) ?rest116
      case hy116 =>
        intro w hSw
        go_simp
        first | done | with_reducible rfl
      try simp only [Act.put, List.setIfInBounds_toArray, List.set_cons_zero, List.set_cons_succ]
      refine tkH (i := 6) (d := some 112) (oi := { dst := some 112, op := Op.move (Operand.tmp 6), type := 30, pos := "law.go:86", after := #[{ on := 3, ground := Ground.guard }], guard := some (3, true) }) (v := ?v117) rfl rfl (by kernel_rfl) (by kernel_rfl) (by kernel_rfl) (fun _ _ _ h => h) (Or.inl ⟨by rfl, ?hy117⟩) (by assumption) ?rest117
      case hy117 =>
        intro w hSw
        go_simp
        first | done | with_reducible rfl
      try simp only [Act.put, List.setIfInBounds_toArray, List.set_cons_zero, List.set_cons_succ]
      refine tkH (i := 7) (d := some 113) (oi := { dst := some 113, op := Op.binOp BinOp.neq 30 (Operand.tmp 112) (Operand.const (Value.int IntKind.i64 0)) 30, type := 4, pos := "law.go:86", after := #[{ on := 6, ground := Ground.data }, { on := 3, ground := Ground.guard }], guard := some (3, true) }) (v := ?v118) rfl rfl (by kernel_rfl) (by kernel_rfl) (by kernel_rfl) (fun _ _ _ h => h) (Or.inl ⟨by rfl, ?hy118⟩) (by assumption) ?rest118
      case hy118 =>
        intro w hSw
        go_simp
        first | done | with_reducible rfl
      try simp only [Act.put, List.setIfInBounds_toArray, List.set_cons_zero, List.set_cons_succ]
      refine tkH (i := 8) (d := some 114) (oi := { dst := some 114, op := Op.binOp BinOp.eql 4 (Operand.tmp 111) (Operand.tmp 113) 4, type := 4, pos := "law.go:86", after := #[{ on := 5, ground := Ground.data }, { on := 7, ground := Ground.data }, { on := 3, ground := Ground.guard }], guard := some (3, true) }) (v := ?v119) rfl rfl (by kernel_rfl) (by kernel_rfl) (by kernel_rfl) (fun _ _ _ h => h) (Or.inl ⟨by rfl, ?hy119⟩) (by assumption) ?rest119
      case hy119 =>
        intro w hSw
        go_simp
        first | done | with_reducible rfl
      try simp only [Act.put, List.setIfInBounds_toArray, List.set_cons_zero, List.set_cons_succ]
      refine tkH (i := 9) (d := some 115) (oi := { dst := some 115, op := Op.pick (Operand.tmp 109) (Operand.tmp 114) (Operand.const (Value.bool false)), type := 4, pos := "law.go:86", after := #[{ on := 3, ground := Ground.data }, { on := 8, ground := Ground.data }], guard := none }) (v := ?v120) rfl rfl (by kernel_rfl) (by kernel_rfl) (by kernel_rfl) (fun _ _ _ h => h) (Or.inl ⟨by rfl, ?hy120⟩) (by assumption) ?rest120
      case hy120 =>
        intro w hSw
        go_simp
        first | done | with_reducible rfl
      try simp only [Act.put, List.setIfInBounds_toArray, List.set_cons_zero, List.set_cons_succ]
      refine tkH (i := 10) (d := some 116) (oi := { dst := some 116, op := Op.move (Operand.tmp 115), type := 4, pos := "law.go:86", after := #[{ on := 9, ground := Ground.data }, { on := 3, ground := Ground.chain }], guard := none }) (v := ?v121) rfl rfl (by kernel_rfl) (by kernel_rfl) (by kernel_rfl) (fun _ _ _ h => h) (Or.inl ⟨by rfl, ?hy121⟩) (by assumption) ?rest121
      case hy121 =>
        intro w hSw
        go_simp
        first | done | with_reducible rfl
      try simp only [Act.put, List.setIfInBounds_toArray, List.set_cons_zero, List.set_cons_succ]
      refine tkH (i := 11) (d := some 117) (oi := { dst := some 117, op := Op.move (Operand.tmp 5), type := 29, pos := "law.go:86", after := #[{ on := 10, ground := Ground.guard }], guard := some (10, true) }) (v := ?v122) rfl rfl (by kernel_rfl) (by kernel_rfl) (by kernel_rfl) (fun _ _ _ h => h) (Or.inl ⟨by rfl, ?hy122⟩) (by assumption) ?rest122
      case hy122 =>
        intro w hSw
        go_simp
        first | done | with_reducible rfl
      try simp only [Act.put, List.setIfInBounds_toArray, List.set_cons_zero, List.set_cons_succ]
      refine tkH (i := 12) (d := some 118) (oi := { dst := some 118, op := Op.binOp BinOp.eql 29 (Operand.tmp 117) (Operand.const (Value.pointer none)) 29, type := 4, pos := "law.go:86", after := #[{ on := 11, ground := Ground.data }, { on := 10, ground := Ground.guard }], guard := some (10, true) }) (v := ?v123) rfl rfl (by kernel_rfl) (by kernel_rfl) (by kernel_rfl) (fun _ _ _ h => h) (Or.inl ⟨by rfl, ?hy123⟩) (by assumption) ?rest123
      case hy123 =>
        intro w hSw
        go_simp
        first | done | with_reducible rfl
      try simp only [Act.put, List.setIfInBounds_toArray, List.set_cons_zero, List.set_cons_succ]
      refine tkH (i := 13) (d := some 119) (oi := { dst := some 119, op := Op.move (Operand.tmp 118), type := 4, pos := "law.go:86", after := #[{ on := 12, ground := Ground.data }, { on := 10, ground := Ground.chain }, { on := 10, ground := Ground.guard }], guard := some (10, true) }) (v := ?v124) rfl rfl (by kernel_rfl) (by kernel_rfl) (by kernel_rfl) (fun _ _ _ h => h) (Or.inl ⟨by rfl, ?hy124⟩) (by assumption) ?rest124
      case hy124 =>
        intro w hSw
        go_simp
        first | done | with_reducible rfl
      try simp only [Act.put, List.setIfInBounds_toArray, List.set_cons_zero, List.set_cons_succ]
      refine tkH (i := 14) (d := some 120) (oi := { dst := some 120, op := Op.move (Operand.tmp 7), type := 33, pos := "law.go:86", after := #[{ on := 13, ground := Ground.guard }], guard := some (13, false) }) (v := undef) rfl rfl (by kernel_rfl) (by kernel_rfl) (by kernel_rfl) (fun _ _ _ h => h) (Or.inr ⟨by rfl, rfl⟩) (by assumption) ?_
      try simp only [Act.put, List.setIfInBounds_toArray, List.set_cons_zero, List.set_cons_succ]
      refine tkH (i := 15) (d := some 121) (oi := { dst := some 121, op := Op.binOp BinOp.eql 33 (Operand.tmp 120) (Operand.const (Value.pointer none)) 33, type := 4, pos := "law.go:86", after := #[{ on := 14, ground := Ground.data }, { on := 13, ground := Ground.guard }], guard := some (13, false) }) (v := undef) rfl rfl (by kernel_rfl) (by kernel_rfl) (by kernel_rfl) (fun _ _ _ h => h) (Or.inr ⟨by rfl, rfl⟩) (by assumption) ?_
      try simp only [Act.put, List.setIfInBounds_toArray, List.set_cons_zero, List.set_cons_succ]
      refine tkH (i := 16) (d := some 122) (oi := { dst := some 122, op := Op.pick (Operand.tmp 119) (Operand.const (Value.bool true)) (Operand.tmp 121), type := 4, pos := "law.go:86", after := #[{ on := 13, ground := Ground.data }, { on := 15, ground := Ground.data }, { on := 10, ground := Ground.guard }], guard := some (10, true) }) (v := ?v127) rfl rfl (by kernel_rfl) (by kernel_rfl) (by kernel_rfl) (fun _ _ _ h => h) (Or.inl ⟨by rfl, ?hy127⟩) (by assumption) ?rest127
      case hy127 =>
        intro w hSw
        go_simp
        first | done | with_reducible rfl
      try simp only [Act.put, List.setIfInBounds_toArray, List.set_cons_zero, List.set_cons_succ]
      refine tkH (i := 17) (d := some 123) (oi := { dst := some 123, op := Op.move (Operand.tmp 122), type := 4, pos := "law.go:86", after := #[{ on := 16, ground := Ground.data }, { on := 13, ground := Ground.chain }, { on := 10, ground := Ground.guard }], guard := some (10, true) }) (v := ?v128) rfl rfl (by kernel_rfl) (by kernel_rfl) (by kernel_rfl) (fun _ _ _ h => h) (Or.inl ⟨by rfl, ?hy128⟩) (by assumption) ?rest128
      case hy128 =>
        intro w hSw
        go_simp
        first | done | with_reducible rfl
      try simp only [Act.put, List.setIfInBounds_toArray, List.set_cons_zero, List.set_cons_succ]
      refine tkH (i := 18) (d := some 124) (oi := { dst := some 124, op := Op.move (Operand.tmp 5), type := 29, pos := "law.go:86", after := #[{ on := 17, ground := Ground.guard }], guard := some (17, false) }) (v := undef) rfl rfl (by kernel_rfl) (by kernel_rfl) (by kernel_rfl) (fun _ _ _ h => h) (Or.inr ⟨by rfl, rfl⟩) (by assumption) ?_
      try simp only [Act.put, List.setIfInBounds_toArray, List.set_cons_zero, List.set_cons_succ]
      refine tkH (i := 19) (d := some 125) (oi := { dst := some 125, op := Op.call { callee := Callee.value (Operand.func 9), args := #[Operand.tmp 124], argTypes := #[29] }, type := 3, pos := "law.go:86", after := #[{ on := 18, ground := Ground.data }, { on := 17, ground := Ground.chain }, { on := 17, ground := Ground.guard }], guard := some (17, false) }) (v := undef) rfl rfl (by kernel_rfl) (by kernel_rfl) (by kernel_rfl) (fun _ _ _ h => h) (Or.inr ⟨by rfl, rfl⟩) (by assumption) ?_
      try simp only [Act.put, List.setIfInBounds_toArray, List.set_cons_zero, List.set_cons_succ]
      refine tkH (i := 20) (d := some 126) (oi := { dst := some 126, op := Op.binOp BinOp.eql 3 (Operand.tmp 125) (Operand.const (Value.int IntKind.i64 (-1))) 3, type := 4, pos := "law.go:86", after := #[{ on := 19, ground := Ground.data }, { on := 17, ground := Ground.guard }], guard := some (17, false) }) (v := undef) rfl rfl (by kernel_rfl) (by kernel_rfl) (by kernel_rfl) (fun _ _ _ h => h) (Or.inr ⟨by rfl, rfl⟩) (by assumption) ?_
      try simp only [Act.put, List.setIfInBounds_toArray, List.set_cons_zero, List.set_cons_succ]
      refine tkH (i := 21) (d := some 127) (oi := { dst := some 127, op := Op.move (Operand.tmp 126), type := 4, pos := "law.go:86", after := #[{ on := 20, ground := Ground.data }, { on := 19, ground := Ground.chain }, { on := 17, ground := Ground.guard }], guard := some (17, false) }) (v := undef) rfl rfl (by kernel_rfl) (by kernel_rfl) (by kernel_rfl) (fun _ _ _ h => h) (Or.inr ⟨by rfl, rfl⟩) (by assumption) ?_
      try simp only [Act.put, List.setIfInBounds_toArray, List.set_cons_zero, List.set_cons_succ]
      refine tkH (i := 22) (d := some 128) (oi := { dst := some 128, op := Op.move (Operand.tmp 5), type := 29, pos := "law.go:86", after := #[{ on := 21, ground := Ground.guard }], guard := some (21, true) }) (v := undef) rfl rfl (by kernel_rfl) (by kernel_rfl) (by kernel_rfl) (fun _ _ _ h => h) (Or.inr ⟨by rfl, rfl⟩) (by assumption) ?_
      try simp only [Act.put, List.setIfInBounds_toArray, List.set_cons_zero, List.set_cons_succ]
      refine tkH (i := 23) (d := some 129) (oi := { dst := some 129, op := Op.call { callee := Callee.value (Operand.func 10), args := #[Operand.tmp 128], argTypes := #[29] }, type := 3, pos := "law.go:86", after := #[{ on := 22, ground := Ground.data }, { on := 21, ground := Ground.chain }, { on := 21, ground := Ground.guard }], guard := some (21, true) }) (v := undef) rfl rfl (by kernel_rfl) (by kernel_rfl) (by kernel_rfl) (fun _ _ _ h => h) (Or.inr ⟨by rfl, rfl⟩) (by assumption) ?_
      try simp only [Act.put, List.setIfInBounds_toArray, List.set_cons_zero, List.set_cons_succ]
      refine tkH (i := 24) (d := some 130) (oi := { dst := some 130, op := Op.move (Operand.tmp 7), type := 33, pos := "law.go:86", after := #[{ on := 21, ground := Ground.guard }], guard := some (21, true) }) (v := undef) rfl rfl (by kernel_rfl) (by kernel_rfl) (by kernel_rfl) (fun _ _ _ h => h) (Or.inr ⟨by rfl, rfl⟩) (by assumption) ?_
      try simp only [Act.put, List.setIfInBounds_toArray, List.set_cons_zero, List.set_cons_succ]
      refine tkH (i := 25) (d := some 131) (oi := { dst := some 131, op := Op.nilCheck (Operand.tmp 130), type := 0, pos := "law.go:86", after := #[{ on := 24, ground := Ground.data }, { on := 21, ground := Ground.guard }], guard := some (21, true) }) (v := undef) rfl rfl (by kernel_rfl) (by kernel_rfl) (by kernel_rfl) (fun _ _ _ h => h) (Or.inr ⟨by rfl, rfl⟩) (by assumption) ?_
      try simp only [Act.put, List.setIfInBounds_toArray, List.set_cons_zero, List.set_cons_succ]
      refine tkH (i := 26) (d := some 132) (oi := { dst := some 132, op := Op.fieldAddr 40 (Operand.tmp 131) 4, type := 0, pos := "law.go:86", after := #[{ on := 25, ground := Ground.data }, { on := 21, ground := Ground.guard }], guard := some (21, true) }) (v := undef) rfl rfl (by kernel_rfl) (by kernel_rfl) (by kernel_rfl) (fun _ _ _ h => h) (Or.inr ⟨by rfl, rfl⟩) (by assumption) ?_
      try simp only [Act.put, List.setIfInBounds_toArray, List.set_cons_zero, List.set_cons_succ]
      refine tkH (i := 27) (d := some 133) (oi := { dst := some 133, op := Op.load 3 (Operand.tmp 132), type := 3, pos := "law.go:86", after := #[{ on := 26, ground := Ground.data }, { on := 21, ground := Ground.guard }], guard := some (21, true) }) (v := undef) rfl rfl (by kernel_rfl) (by kernel_rfl) (by kernel_rfl) (fun _ _ _ h => h) (Or.inr ⟨by rfl, rfl⟩) (by assumption) ?_
      try simp only [Act.put, List.setIfInBounds_toArray, List.set_cons_zero, List.set_cons_succ]
      refine tkH (i := 28) (d := some 134) (oi := { dst := some 134, op := Op.binOp BinOp.eql 3 (Operand.tmp 129) (Operand.tmp 133) 3, type := 4, pos := "law.go:86", after := #[{ on := 23, ground := Ground.data }, { on := 27, ground := Ground.data }, { on := 21, ground := Ground.guard }], guard := some (21, true) }) (v := undef) rfl rfl (by kernel_rfl) (by kernel_rfl) (by kernel_rfl) (fun _ _ _ h => h) (Or.inr ⟨by rfl, rfl⟩) (by assumption) ?_
      try simp only [Act.put, List.setIfInBounds_toArray, List.set_cons_zero, List.set_cons_succ]
      refine tkH (i := 29) (d := some 135) (oi := { dst := some 135, op := Op.pick (Operand.tmp 127) (Operand.tmp 134) (Operand.const (Value.bool false)), type := 4, pos := "law.go:86", after := #[{ on := 21, ground := Ground.data }, { on := 28, ground := Ground.data }, { on := 17, ground := Ground.guard }], guard := some (17, false) }) (v := undef) rfl rfl (by kernel_rfl) (by kernel_rfl) (by kernel_rfl) (fun _ _ _ h => h) (Or.inr ⟨by rfl, rfl⟩) (by assumption) ?_
      try simp only [Act.put, List.setIfInBounds_toArray, List.set_cons_zero, List.set_cons_succ]
      refine tkH (i := 30) (d := some 136) (oi := { dst := some 136, op := Op.move (Operand.tmp 135), type := 4, pos := "law.go:86", after := #[{ on := 29, ground := Ground.data }, { on := 23, ground := Ground.chain }, { on := 17, ground := Ground.guard }], guard := some (17, false) }) (v := undef) rfl rfl (by kernel_rfl) (by kernel_rfl) (by kernel_rfl) (fun _ _ _ h => h) (Or.inr ⟨by rfl, rfl⟩) (by assumption) ?_
      try simp only [Act.put, List.setIfInBounds_toArray, List.set_cons_zero, List.set_cons_succ]
      refine tkH (i := 31) (d := some 137) (oi := { dst := some 137, op := Op.move (Operand.tmp 5), type := 29, pos := "law.go:86", after := #[{ on := 30, ground := Ground.guard }], guard := some (30, true) }) (v := undef) rfl rfl (by kernel_rfl) (by kernel_rfl) (by kernel_rfl) (fun _ _ _ h => h) (Or.inr ⟨by rfl, rfl⟩) (by assumption) ?_
      try simp only [Act.put, List.setIfInBounds_toArray, List.set_cons_zero, List.set_cons_succ]
      refine tkH (i := 32) (d := some 138) (oi := { dst := some 138, op := Op.call { callee := Callee.value (Operand.func 11), args := #[Operand.tmp 137], argTypes := #[29] }, type := 3, pos := "law.go:86", after := #[{ on := 31, ground := Ground.data }, { on := 30, ground := Ground.chain }, { on := 30, ground := Ground.guard }], guard := some (30, true) }) (v := undef) rfl rfl (by kernel_rfl) (by kernel_rfl) (by kernel_rfl) (fun _ _ _ h => h) (Or.inr ⟨by rfl, rfl⟩) (by assumption) ?_
      try simp only [Act.put, List.setIfInBounds_toArray, List.set_cons_zero, List.set_cons_succ]
      refine tkH (i := 33) (d := some 139) (oi := { dst := some 139, op := Op.binOp BinOp.eql 3 (Operand.tmp 138) (Operand.const (Value.int IntKind.i64 2)) 3, type := 4, pos := "law.go:86", after := #[{ on := 32, ground := Ground.data }, { on := 30, ground := Ground.guard }], guard := some (30, true) }) (v := undef) rfl rfl (by kernel_rfl) (by kernel_rfl) (by kernel_rfl) (fun _ _ _ h => h) (Or.inr ⟨by rfl, rfl⟩) (by assumption) ?_
      try simp only [Act.put, List.setIfInBounds_toArray, List.set_cons_zero, List.set_cons_succ]
      refine tkH (i := 34) (d := some 140) (oi := { dst := some 140, op := Op.pick (Operand.tmp 136) (Operand.tmp 139) (Operand.const (Value.bool false)), type := 4, pos := "law.go:86", after := #[{ on := 30, ground := Ground.data }, { on := 33, ground := Ground.data }, { on := 17, ground := Ground.guard }], guard := some (17, false) }) (v := undef) rfl rfl (by kernel_rfl) (by kernel_rfl) (by kernel_rfl) (fun _ _ _ h => h) (Or.inr ⟨by rfl, rfl⟩) (by assumption) ?_
      try simp only [Act.put, List.setIfInBounds_toArray, List.set_cons_zero, List.set_cons_succ]
      refine tkH (i := 35) (d := some 141) (oi := { dst := some 141, op := Op.move (Operand.tmp 140), type := 4, pos := "law.go:86", after := #[{ on := 34, ground := Ground.data }, { on := 32, ground := Ground.chain }, { on := 17, ground := Ground.guard }], guard := some (17, false) }) (v := undef) rfl rfl (by kernel_rfl) (by kernel_rfl) (by kernel_rfl) (fun _ _ _ h => h) (Or.inr ⟨by rfl, rfl⟩) (by assumption) ?_
      try simp only [Act.put, List.setIfInBounds_toArray, List.set_cons_zero, List.set_cons_succ]
      refine tkH (i := 36) (d := some 142) (oi := { dst := some 142, op := Op.move (Operand.tmp 5), type := 29, pos := "law.go:86", after := #[{ on := 35, ground := Ground.guard }], guard := some (35, true) }) (v := undef) rfl rfl (by kernel_rfl) (by kernel_rfl) (by kernel_rfl) (fun _ _ _ h => h) (Or.inr ⟨by rfl, rfl⟩) (by assumption) ?_
      try simp only [Act.put, List.setIfInBounds_toArray, List.set_cons_zero, List.set_cons_succ]
      refine tkH (i := 37) (d := some 143) (oi := { dst := some 143, op := Op.call { callee := Callee.value (Operand.func 14), args := #[Operand.tmp 142], argTypes := #[29] }, type := 3, pos := "law.go:86", after := #[{ on := 36, ground := Ground.data }, { on := 35, ground := Ground.chain }, { on := 35, ground := Ground.guard }], guard := some (35, true) }) (v := undef) rfl rfl (by kernel_rfl) (by kernel_rfl) (by kernel_rfl) (fun _ _ _ h => h) (Or.inr ⟨by rfl, rfl⟩) (by assumption) ?_
      try simp only [Act.put, List.setIfInBounds_toArray, List.set_cons_zero, List.set_cons_succ]
      refine tkH (i := 38) (d := some 144) (oi := { dst := some 144, op := Op.fieldAddr 24 (Operand.tmp 1) 2, type := 0, pos := "law.go:86", after := #[{ on := 35, ground := Ground.guard }], guard := some (35, true) }) (v := undef) rfl rfl (by kernel_rfl) (by kernel_rfl) (by kernel_rfl) (fun _ _ _ h => h) (Or.inr ⟨by rfl, rfl⟩) (by assumption) ?_
      try simp only [Act.put, List.setIfInBounds_toArray, List.set_cons_zero, List.set_cons_succ]
      refine tkH (i := 39) (d := some 145) (oi := { dst := some 145, op := Op.load 3 (Operand.tmp 144), type := 3, pos := "law.go:86", after := #[{ on := 38, ground := Ground.data }, { on := 35, ground := Ground.guard }], guard := some (35, true) }) (v := undef) rfl rfl (by kernel_rfl) (by kernel_rfl) (by kernel_rfl) (fun _ _ _ h => h) (Or.inr ⟨by rfl, rfl⟩) (by assumption) ?_
      try simp only [Act.put, List.setIfInBounds_toArray, List.set_cons_zero, List.set_cons_succ]
      refine tkH (i := 40) (d := some 146) (oi := { dst := some 146, op := Op.binOp BinOp.eql 3 (Operand.tmp 143) (Operand.tmp 145) 3, type := 4, pos := "law.go:86", after := #[{ on := 37, ground := Ground.data }, { on := 39, ground := Ground.data }, { on := 35, ground := Ground.guard }], guard := some (35, true) }) (v := undef) rfl rfl (by kernel_rfl) (by kernel_rfl) (by kernel_rfl) (fun _ _ _ h => h) (Or.inr ⟨by rfl, rfl⟩) (by assumption) ?_
      try simp only [Act.put, List.setIfInBounds_toArray, List.set_cons_zero, List.set_cons_succ]
      refine tkH (i := 41) (d := some 147) (oi := { dst := some 147, op := Op.pick (Operand.tmp 141) (Operand.tmp 146) (Operand.const (Value.bool false)), type := 4, pos := "law.go:86", after := #[{ on := 35, ground := Ground.data }, { on := 40, ground := Ground.data }, { on := 17, ground := Ground.guard }], guard := some (17, false) }) (v := undef) rfl rfl (by kernel_rfl) (by kernel_rfl) (by kernel_rfl) (fun _ _ _ h => h) (Or.inr ⟨by rfl, rfl⟩) (by assumption) ?_
      try simp only [Act.put, List.setIfInBounds_toArray, List.set_cons_zero, List.set_cons_succ]
      refine tkH (i := 42) (d := some 148) (oi := { dst := some 148, op := Op.pick (Operand.tmp 123) (Operand.const (Value.bool true)) (Operand.tmp 147), type := 4, pos := "law.go:86", after := #[{ on := 17, ground := Ground.data }, { on := 41, ground := Ground.data }, { on := 10, ground := Ground.guard }], guard := some (10, true) }) (v := ?v153) rfl rfl (by kernel_rfl) (by kernel_rfl) (by kernel_rfl) (fun _ _ _ h => h) (Or.inl ⟨by rfl, ?hy153⟩) (by assumption) ?rest153
      case hy153 =>
        intro w hSw
        go_simp
        first | done | with_reducible rfl
      try simp only [Act.put, List.setIfInBounds_toArray, List.set_cons_zero, List.set_cons_succ]
      refine tkH (i := 43) (d := some 149) (oi := { dst := some 149, op := Op.pick (Operand.tmp 116) (Operand.tmp 148) (Operand.const (Value.bool false)), type := 4, pos := "law.go:86", after := #[{ on := 10, ground := Ground.data }, { on := 42, ground := Ground.data }], guard := none }) (v := ?v154) rfl rfl (by kernel_rfl) (by kernel_rfl) (by kernel_rfl) (fun _ _ _ h => h) (Or.inl ⟨by rfl, ?hy154⟩) (by assumption) ?rest154
      case hy154 =>
        intro w hSw
        go_simp
        first | done | with_reducible rfl
      try simp only [Act.put, List.setIfInBounds_toArray, List.set_cons_zero, List.set_cons_succ]
      refine tkH (i := 44) (d := some 150) (oi := { dst := some 150, op := Op.move (Operand.tmp 149), type := 4, pos := "law.go:86", after := #[{ on := 43, ground := Ground.data }, { on := 37, ground := Ground.chain }], guard := none }) (v := ?v155) rfl rfl (by kernel_rfl) (by kernel_rfl) (by kernel_rfl) (fun _ _ _ h => h) (Or.inl ⟨by rfl, ?hy155⟩) (by assumption) ?rest155
      case hy155 =>
        intro w hSw
        go_simp
        first | done | with_reducible rfl
      try simp only [Act.put, List.setIfInBounds_toArray, List.set_cons_zero, List.set_cons_succ]
      refine tkH (i := 45) (d := some 151) (oi := { dst := some 151, op := Op.move (Operand.tmp 3), type := 25, pos := "law.go:86", after := #[{ on := 44, ground := Ground.guard }], guard := some (44, true) }) (v := ?v156) rfl rfl (by kernel_rfl) (by kernel_rfl) (by kernel_rfl) (fun _ _ _ h => h) (Or.inl ⟨by rfl, ?hy156⟩) (by assumption) ?rest156
      case hy156 =>
        intro w hSw
        go_simp
        first | done | with_reducible rfl
      try simp only [Act.put, List.setIfInBounds_toArray, List.set_cons_zero, List.set_cons_succ]
      refine tkH (i := 47) (d := some 153) (oi := { dst := some 153, op := Op.move (Operand.tmp 4), type := 26, pos := "law.go:86", after := #[{ on := 44, ground := Ground.guard }], guard := some (44, true) }) (v := ?v157) rfl rfl (by kernel_rfl) (by kernel_rfl) (by kernel_rfl) (fun _ _ _ h => h) (Or.inl ⟨by rfl, ?hy157⟩) (by assumption) ?rest157
      case hy157 =>
        intro w hSw
        go_simp
        first | done | with_reducible rfl
      try simp only [Act.put, List.setIfInBounds_toArray, List.set_cons_zero, List.set_cons_succ]
      refine wpAnyH_ready (rs := [46]) (by kernel_rfl) (by simp) ?_
      refine AllReadyH.cons (o := { dst := some 152, op := Op.call { callee := Callee.value (Operand.func 15), args := #[Operand.tmp 151], argTypes := #[25] }, type := 9, pos := "law.go:86", after := #[{ on := 45, ground := Ground.data }, { on := 44, ground := Ground.chain }, { on := 44, ground := Ground.guard }], guard := some (44, true) }) rfl (fun K hK => ?_) AllReadyH.nil
      go_simp
      refine (image_c _ g bm2 (formatP S f c n).2.1 (HA9.out.stay h0) HOK8.out.1).mono ?_
      rintro e wa ⟨rfl, hfwa⟩
      have hwa := Fr.trans h0 hfwa (fun _ _ f => f)
      go_wp2_with fail
      refine hK.out _ _ (trivial) (fun hHeld => ?_)
      clear hK K
      try simp only [Act.put, List.setIfInBounds_toArray, List.set_cons_zero, List.set_cons_succ]
      refine wpAnyH_ready (rs := [48]) (by kernel_rfl) (by simp) ?_
      refine AllReadyH.cons (o := { dst := some 154, op := Op.call { callee := Callee.value (Operand.func 16), args := #[Operand.tmp 153], argTypes := #[26] }, type := 9, pos := "law.go:86", after := #[{ on := 47, ground := Ground.data }, { on := 46, ground := Ground.chain }, { on := 44, ground := Ground.guard }], guard := some (44, true) }) rfl (fun K hK => ?_) AllReadyH.nil
      go_simp
      refine (rimage_c _ m u1 u2 (formatP S f c n).2.1 (RC.stay HR9.out hwa) HOK8.out.1).mono ?_
      rintro e wb ⟨rfl, hfwb⟩
      have hwb := Fr.trans hwa hfwb (fun _ _ f => f)
      go_wp2_with fail
      refine hK.out _ _ (trivial) (fun hHeld => ?_)
      clear hK K
      try simp only [Act.put, List.setIfInBounds_toArray, List.set_cons_zero, List.set_cons_succ]
      refine tkH (i := 49) (d := some 155) (oi := { dst := some 155, op := Op.binOp BinOp.eql 9 (Operand.tmp 152) (Operand.tmp 154) 9, type := 4, pos := "law.go:86", after := #[{ on := 46, ground := Ground.data }, { on := 48, ground := Ground.data }, { on := 44, ground := Ground.guard }], guard := some (44, true) }) (v := ?v160) rfl rfl (by kernel_rfl) (by kernel_rfl) (by kernel_rfl) (fun _ _ _ h => h) (Or.inl ⟨by rfl, ?hy160⟩) (by assumption) ?rest160
      case hy160 =>
        intro w hSw
        go_simp
        first | done | with_reducible rfl
      try simp only [Act.put, List.setIfInBounds_toArray, List.set_cons_zero, List.set_cons_succ]
      refine tkH (i := 50) (d := some 156) (oi := { dst := some 156, op := Op.pick (Operand.tmp 150) (Operand.tmp 155) (Operand.const (Value.bool false)), type := 4, pos := "law.go:86", after := #[{ on := 44, ground := Ground.data }, { on := 49, ground := Ground.data }], guard := none }) (v := ?v161) rfl rfl (by kernel_rfl) (by kernel_rfl) (by kernel_rfl) (fun _ _ _ h => h) (Or.inl ⟨by rfl, ?hy161⟩) (by assumption) ?rest161
      case hy161 =>
        intro w hSw
        go_simp
        first | done | with_reducible rfl
      try simp only [Act.put, List.setIfInBounds_toArray, List.set_cons_zero, List.set_cons_succ]
      refine tkH (i := 51) (d := some 157) (oi := { dst := some 157, op := Op.move (Operand.tmp 156), type := 4, pos := "law.go:86", after := #[{ on := 50, ground := Ground.data }, { on := 48, ground := Ground.chain }], guard := none }) (v := ?v162) rfl rfl (by kernel_rfl) (by kernel_rfl) (by kernel_rfl) (fun _ _ _ h => h) (Or.inl ⟨by rfl, ?hy162⟩) (by assumption) ?rest162
      case hy162 =>
        intro w hSw
        go_simp
        first | done | with_reducible rfl
      try simp only [Act.put, List.setIfInBounds_toArray, List.set_cons_zero, List.set_cons_succ]
      refine tkH (i := 52) (d := some 158) (oi := { dst := some 158, op := Op.move (Operand.tmp 3), type := 25, pos := "law.go:86", after := #[{ on := 51, ground := Ground.guard }], guard := some (51, true) }) (v := ?v163) rfl rfl (by kernel_rfl) (by kernel_rfl) (by kernel_rfl) (fun _ _ _ h => h) (Or.inl ⟨by rfl, ?hy163⟩) (by assumption) ?rest163
      case hy163 =>
        intro w hSw
        go_simp
        first | done | with_reducible rfl
      try simp only [Act.put, List.setIfInBounds_toArray, List.set_cons_zero, List.set_cons_succ]
      refine tkH (i := 55) (d := some 161) (oi := { dst := some 161, op := Op.move (Operand.tmp 4), type := 26, pos := "law.go:86", after := #[{ on := 51, ground := Ground.guard }], guard := some (51, true) }) (v := ?v164) rfl rfl (by kernel_rfl) (by kernel_rfl) (by kernel_rfl) (fun _ _ _ h => h) (Or.inl ⟨by rfl, ?hy164⟩) (by assumption) ?rest164
      case hy164 =>
        intro w hSw
        go_simp
        first | done | with_reducible rfl
      try simp only [Act.put, List.setIfInBounds_toArray, List.set_cons_zero, List.set_cons_succ]
      refine wpAnyH_ready (rs := [53]) (by kernel_rfl) (by simp) ?_
      refine AllReadyH.cons (o := { dst := some 159, op := Op.call { callee := Callee.value (Operand.func 17), args := #[Operand.tmp 158], argTypes := #[25] }, type := 38, pos := "law.go:86", after := #[{ on := 52, ground := Ground.data }, { on := 51, ground := Ground.chain }, { on := 51, ground := Ground.guard }], guard := some (51, true) }) rfl (fun K hK => ?_) AllReadyH.nil
      go_simp
      refine (unsafe_c _ g bm2 (formatP S f c n).2.1 (HA9.out.stay hwb) HOK8.out.1).mono ?_
      rintro e wc ⟨vu, rfl, ⟨au, cu, rfl, _⟩, _, hfwc⟩
      have hwc := Fr.trans hwb hfwc (fun _ _ f => f)
      go_wp2_with fail
      refine hK.out _ _ (trivial) (fun hHeld => ?_)
      clear hK K
      try simp only [Act.put, List.setIfInBounds_toArray, List.set_cons_zero, List.set_cons_succ]
      refine tkH (i := 54) (d := some 160) (oi := { dst := some 160, op := Op.call { callee := Callee.builtin Builtin.len, args := #[Operand.tmp 159], argTypes := #[38] }, type := 3, pos := "law.go:86", after := #[{ on := 53, ground := Ground.data }, { on := 51, ground := Ground.guard }], guard := some (51, true) }) (v := ?v166) rfl rfl (by kernel_rfl) (by kernel_rfl) (by kernel_rfl) (fun _ _ _ h => h) (Or.inl ⟨by rfl, ?hy166⟩) (by assumption) ?rest166
      case hy166 =>
        intro w hSw
        go_simp
        first | done | with_reducible rfl
      try simp only [Act.put, List.setIfInBounds_toArray, List.set_cons_zero, List.set_cons_succ]
      refine wpAnyH_ready (rs := [56]) (by kernel_rfl) (by simp) ?_
      refine AllReadyH.cons (o := { dst := some 162, op := Op.call { callee := Callee.value (Operand.func 18), args := #[Operand.tmp 161], argTypes := #[26] }, type := 38, pos := "law.go:86", after := #[{ on := 55, ground := Ground.data }, { on := 53, ground := Ground.chain }, { on := 51, ground := Ground.guard }], guard := some (51, true) }) rfl (fun K hK => ?_) AllReadyH.nil
      go_simp
      refine (runsafe_v _ m u1 u2 (formatP S f c n).2.1 (RC.stay HR9.out hwc) HOK8.out.1).mono ?_
      rintro e wd ⟨vr, rfl, ⟨ar, cr, rfl, _⟩, hfwd⟩
      have hwd := Fr.trans hwc hfwd (fun _ _ f => f)
      go_wp2_with fail
      refine hK.out _ _ (trivial) (fun hHeld => ?_)
      clear hK K
      try simp only [Act.put, List.setIfInBounds_toArray, List.set_cons_zero, List.set_cons_succ]
      refine tkH (i := 57) (d := some 163) (oi := { dst := some 163, op := Op.call { callee := Callee.builtin Builtin.len, args := #[Operand.tmp 162], argTypes := #[38] }, type := 3, pos := "law.go:86", after := #[{ on := 56, ground := Ground.data }, { on := 51, ground := Ground.guard }], guard := some (51, true) }) (v := ?v168) rfl rfl (by kernel_rfl) (by kernel_rfl) (by kernel_rfl) (fun _ _ _ h => h) (Or.inl ⟨by rfl, ?hy168⟩) (by assumption) ?rest168
      case hy168 =>
        intro w hSw
        go_simp
        first | done | with_reducible rfl
      try simp only [Act.put, List.setIfInBounds_toArray, List.set_cons_zero, List.set_cons_succ]
      refine tkH (i := 58) (d := some 164) (oi := { dst := some 164, op := Op.binOp BinOp.eql 3 (Operand.tmp 160) (Operand.tmp 163) 3, type := 4, pos := "law.go:86", after := #[{ on := 54, ground := Ground.data }, { on := 57, ground := Ground.data }, { on := 51, ground := Ground.guard }], guard := some (51, true) }) (v := ?v169) rfl rfl (by kernel_rfl) (by kernel_rfl) (by kernel_rfl) (fun _ _ _ h => h) (Or.inl ⟨by rfl, ?hy169⟩) (by assumption) ?rest169
      case hy169 =>
        intro w hSw
        go_simp
        first | done | with_reducible rfl
      try simp only [Act.put, List.setIfInBounds_toArray, List.set_cons_zero, List.set_cons_succ]
      refine tkH (i := 59) (d := some 165) (oi := { dst := some 165, op := Op.pick (Operand.tmp 157) (Operand.tmp 164) (Operand.const (Value.bool false)), type := 4, pos := "law.go:86", after := #[{ on := 51, ground := Ground.data }, { on := 58, ground := Ground.data }], guard := none }) (v := ?v170) rfl rfl (by kernel_rfl) (by kernel_rfl) (by kernel_rfl) (fun _ _ _ h => h) (Or.inl ⟨by rfl, ?hy170⟩) (by assumption) ?rest170
      case hy170 =>
        intro w hSw
        go_simp
        first | done | with_reducible rfl
      try simp only [Act.put, List.setIfInBounds_toArray, List.set_cons_zero, List.set_cons_succ]
      refine tkH (i := 60) (d := some 2) (oi := { dst := some 2, op := Op.assign (Operand.tmp 165), type := 4, pos := "law.go:86", after := #[{ on := 59, ground := Ground.data }, { on := 56, ground := Ground.chain }, { on := 0, ground := Ground.phase }, { on := 1, ground := Ground.phase }, { on := 2, ground := Ground.phase }, { on := 3, ground := Ground.phase }, { on := 4, ground := Ground.phase }, { on := 5, ground := Ground.phase }, { on := 6, ground := Ground.phase }, { on := 7, ground := Ground.phase }, { on := 8, ground := Ground.phase }, { on := 9, ground := Ground.phase }, { on := 10, ground := Ground.phase }, { on := 11, ground := Ground.phase }, { on := 12, ground := Ground.phase }, { on := 13, ground := Ground.phase }, { on := 14, ground := Ground.phase }, { on := 15, ground := Ground.phase }, { on := 16, ground := Ground.phase }, { on := 17, ground := Ground.phase }, { on := 18, ground := Ground.phase }, { on := 19, ground := Ground.phase }, { on := 20, ground := Ground.phase }, { on := 21, ground := Ground.phase }, { on := 22, ground := Ground.phase }, { on := 23, ground := Ground.phase }, { on := 24, ground := Ground.phase }, { on := 25, ground := Ground.phase }, { on := 26, ground := Ground.phase }, { on := 27, ground := Ground.phase }, { on := 28, ground := Ground.phase }, { on := 29, ground := Ground.phase }, { on := 30, ground := Ground.phase }, { on := 31, ground := Ground.phase }, { on := 32, ground := Ground.phase }, { on := 33, ground := Ground.phase }, { on := 34, ground := Ground.phase }, { on := 35, ground := Ground.phase }, { on := 36, ground := Ground.phase }, { on := 37, ground := Ground.phase }, { on := 38, ground := Ground.phase }, { on := 39, ground := Ground.phase }, { on := 40, ground := Ground.phase }, { on := 41, ground := Ground.phase }, { on := 42, ground := Ground.phase }, { on := 43, ground := Ground.phase }, { on := 44, ground := Ground.phase }, { on := 45, ground := Ground.phase }, { on := 46, ground := Ground.phase }, { on := 47, ground := Ground.phase }, { on := 48, ground := Ground.phase }, { on := 49, ground := Ground.phase }, { on := 50, ground := Ground.phase }, { on := 51, ground := Ground.phase }, { on := 52, ground := Ground.phase }, { on := 53, ground := Ground.phase }, { on := 54, ground := Ground.phase }, { on := 55, ground := Ground.phase }, { on := 56, ground := Ground.phase }, { on := 57, ground := Ground.phase }, { on := 58, ground := Ground.phase }, { on := 59, ground := Ground.phase }], guard := none }) (v := ?v171) rfl rfl (by kernel_rfl) (by kernel_rfl) (by kernel_rfl) (fun _ _ _ h => h) (Or.inl ⟨by rfl, ?hy171⟩) (by assumption) ?rest171
      case hy171 =>
        intro w hSw
        go_simp
        first | done | with_reducible rfl
      try simp only [Act.put, List.setIfInBounds_toArray, List.set_cons_zero, List.set_cons_succ]
      refine wpAnyH_done (by kernel_rfl) ?_ _
      go_wp2_with fail
      go_ret
      refine ⟨rfl, ?_⟩
      exact HFIN.out _ hwd
    · subst hP2
      obtain ⟨p2, ml2, mt2, bm2, h8, hpd8, hp2l, hml2, hmt2, hbm2⟩ := HP8.out.2.1 _ hfp
      subst h8
      have HPD8 := hid hpd8
      have HFP := hid hfp
      have HNEW := hid (And.intro hp2l (And.intro hml2 hmt2))
      have HPK := hid (pchk_ok hpc)
      clear hpd8 hp2l hml2 hmt2 hbm2 hfp hpc
      go_wp2_with fail
      refine HRF.out.mono ?_
      intro e9 w9 hp9
      obtain ⟨q2, ub2, u1, u2, h9, hrp9, hq2, hub2, hu1, hu2⟩ := hp9.2.1 _ HFP.out
      subst h9
      have hf9 := hp9.1
      have HPD9 := hid (show PD w9 p2 g bm2 ml2 mt2 (PSt.of f.toNat c.toNat (2, -1, n.toNat)) (formatP S f c n).2.1 by
        obtain ⟨⟨_, _, _, hm1, _⟩, ⟨_, hm2, _⟩, ⟨_, hm3, _⟩, _⟩ := HRX.out
        have a1 := lt_of_at hm1
        have a2 := lt_of_at hm2
        have a3 := lt_of_at hm3
        obtain ⟨b1', b2', b3'⟩ := HNEW.out
        obtain ⟨⟨s1, s2, s3, s4⟩, s5, s6, s7⟩ := HPD8.out
        exact ⟨⟨hf9.at s1 (by omega), s2.keep hf9 (by omega), s3.keep hf9 (by omega), s4⟩, s5.besideR HR8.out hf9, s6, s7⟩)
      have HA9 := hid HPD9.out.da
      have HR9 := hid hrp9.ra
      have en : ((n.toNat : Nat) : Int) = n := by have := HPK.out; omega
      have ec : ((c.toNat : Nat) : Int) = c := by have := HPK.out; omega
      obtain ⟨cap9, hq9⟩ := hrp9.pa.cells
      have r4 : w9.cell? ⟨q2, 4, none⟩ = some (.int .i64 n) := by
        rw [cell_at hq9 4, ← en]
        rfl
      have hb9 := hf9.at HB8.out (by have := HXN.out; omega)
      have r2 : w9.cell? ⟨x1, 2, none⟩ = some (.int .i64 c) := cell_at hb9 2
      have y4 : w9.drew.cell? ⟨q2, 4, none⟩ = some (.int .i64 n) := r4
      have y2 : w9.drew.cell? ⟨x1, 2, none⟩ = some (.int .i64 c) := r2
      have h0 : Fr (fun _ => False) w9 w9.drew := (Fr.refl _ w9).drew
      have HRT := hid (show Calls Tryz.prog 9 #[.pointer (some ⟨p2, 0, none⟩)] w9.drew fun e w' => e = .returned (.int .i64 (-1)) ∧ w' = w9.drew from root_c _ p2 g ml2 mt2 _ (HPD9.out.stay h0).pa)
      have HFR := hid (show Calls Tryz.prog 10 #[.pointer (some ⟨p2, 0, none⟩)] w9.drew fun e w' => e = .returned (.int .i64 n) ∧ w' = w9.drew by
        have := from_c _ p2 g ml2 mt2 _ (HPD9.out.stay h0).pa
        rw [show (PSt.of f.toNat c.toNat (2, -1, n.toNat)).from_ = n.toNat from rfl, en] at this
        exact this)
      have HGE := hid (show Calls Tryz.prog 11 #[.pointer (some ⟨p2, 0, none⟩)] w9.drew fun e w' => e = .returned (.int .i64 2) ∧ w' = w9.drew from gen_c _ p2 g ml2 mt2 _ (HPD9.out.stay h0).pa)
      have HFE := hid (show Calls Tryz.prog 14 #[.pointer (some ⟨p2, 0, none⟩)] w9.drew fun e w' => e = .returned (.int .i64 c) ∧ Fr (fun _ => False) w9.drew w' by
        have := free_c _ p2 g ml2 mt2 _ (HPD9.out.stay h0).pa (by show c.toNat ≤ 4096; have := HPK.out; omega)
        rw [of_free, ec] at this
        exact this)
      have HFIN := hid (fun (W : World) (hf : Fr (fun _ => False) w9 W) => show Fr (fun _ => False) w W by
        have hlo := HDJ.out.low
        have hx1 : w.heap.size ≤ w1.heap.size := HF1.out.size
        exact ((((HF1.out.trans HDJ.out.fr (fun _ _ f => f)).trans (HF3.out.trans HX3.out (fun _ _ f => f)) (fun _ _ f => f)).trans HP8.out.1 (fun i hi e => by omega)).trans hf9 (fun i hi e => by omega)).trans hf (fun _ _ f => f))
      clear hp9 hrp9 hq2 hub2 hu1 hu2 hq9 hb9 HRF j1 j2 j3 en ec
      go_wp2_with fail
      refine wp_region_held_drew (S := fun w' => w'.cell? ⟨q2, 4, none⟩ = some (.int .i64 n) ∧ w'.cell? ⟨x1, 2, none⟩ = some (.int .i64 c)) (by kernel_rfl) (⟨y4, y2⟩) (fun hHeld => ?_)
      refine tkH (i := 0) (d := some 106) (oi := { dst := some 106, op := Op.move (Operand.tmp 6), type := 30, pos := "law.go:86", after := #[], guard := none }) (v := ?v50) rfl rfl (by kernel_rfl) (by kernel_rfl) (by kernel_rfl) (fun _ _ _ h => h) (Or.inl ⟨by rfl, ?hy50⟩) (by assumption) ?rest50
      case hy50 =>
        intro w hSw
        go_simp
        first | done | with_reducible rfl
      try simp only [Act.put, List.setIfInBounds_toArray, List.set_cons_zero, List.set_cons_succ]
      refine tkH (i := 1) (d := some 107) (oi := { dst := some 107, op := Op.move (Operand.tmp 8), type := 30, pos := "law.go:86", after := #[], guard := none }) (v := ?v51) rfl rfl (by kernel_rfl) (by kernel_rfl) (by kernel_rfl) (fun _ _ _ h => h) (Or.inl ⟨by rfl, ?hy51⟩) (by assumption) ?rest51
      case hy51 =>
        intro w hSw
        go_simp
        first | done | with_reducible rfl
      try simp only [Act.put, List.setIfInBounds_toArray, List.set_cons_zero, List.set_cons_succ]
      refine tkH (i := 2) (d := some 108) (oi := { dst := some 108, op := Op.binOp BinOp.eql 30 (Operand.tmp 106) (Operand.tmp 107) 30, type := 4, pos := "law.go:86", after := #[{ on := 0, ground := Ground.data }, { on := 1, ground := Ground.data }], guard := none }) (v := ?v52) rfl rfl (by kernel_rfl) (by kernel_rfl) (by kernel_rfl) (fun _ _ _ h => h) (Or.inl ⟨by rfl, ?hy52⟩) (by assumption) ?rest52
      case hy52 =>
        intro w hSw
        go_simp
        first | done | with_reducible rfl
      try simp only [Act.put, List.setIfInBounds_toArray, List.set_cons_zero, List.set_cons_succ]
      refine tkH (i := 3) (d := some 109) (oi := { dst := some 109, op := Op.move (Operand.tmp 108), type := 4, pos := "law.go:86", after := #[{ on := 2, ground := Ground.data }], guard := none }) (v := ?v53) rfl rfl (by kernel_rfl) (by kernel_rfl) (by kernel_rfl) (fun _ _ _ h => h) (Or.inl ⟨by rfl, ?hy53⟩) (by assumption) ?rest53
      case hy53 =>
        intro w hSw
        go_simp
        first | done | with_reducible rfl
      try simp only [Act.put, List.setIfInBounds_toArray, List.set_cons_zero, List.set_cons_succ]
      refine tkH (i := 4) (d := some 110) (oi := { dst := some 110, op := Op.move (Operand.tmp 5), type := 29, pos := "law.go:86", after := #[{ on := 3, ground := Ground.guard }], guard := some (3, true) }) (v := ?v54) rfl rfl (by kernel_rfl) (by kernel_rfl) (by kernel_rfl) (fun _ _ _ h => h) (Or.inl ⟨by rfl, ?hy54⟩) (by assumption) ?rest54
      case hy54 =>
        intro w hSw
        go_simp
        first | done | with_reducible rfl
      try simp only [Act.put, List.setIfInBounds_toArray, List.set_cons_zero, List.set_cons_succ]
      refine tkH (i := 5) (d := some 111) (oi := { dst := some 111, op := Op.binOp BinOp.eql 29 (Operand.tmp 110) (Operand.const (Value.pointer none)) 29, type := 4, pos := "law.go:86", after := #[{ on := 4, ground := Ground.data }, { on := 3, ground := Ground.guard }], guard := some (3, true) }) (v := ?v55) rfl rfl (by kernel_rfl) (by kernel_rfl) (by kernel_rfl) (fun _ _ _ h => h) (Or.inl ⟨by rfl, ?hy55⟩) (by assumption) ?rest55
      case hy55 =>
        intro w hSw
        go_simp
        first | done | with_reducible rfl
      try simp only [Act.put, List.setIfInBounds_toArray, List.set_cons_zero, List.set_cons_succ]
      refine tkH (i := 6) (d := some 112) (oi := { dst := some 112, op := Op.move (Operand.tmp 6), type := 30, pos := "law.go:86", after := #[{ on := 3, ground := Ground.guard }], guard := some (3, true) }) (v := ?v56) rfl rfl (by kernel_rfl) (by kernel_rfl) (by kernel_rfl) (fun _ _ _ h => h) (Or.inl ⟨by rfl, ?hy56⟩) (by assumption) ?rest56
      case hy56 =>
        intro w hSw
        go_simp
        first | done | with_reducible rfl
      try simp only [Act.put, List.setIfInBounds_toArray, List.set_cons_zero, List.set_cons_succ]
      refine tkH (i := 7) (d := some 113) (oi := { dst := some 113, op := Op.binOp BinOp.neq 30 (Operand.tmp 112) (Operand.const (Value.int IntKind.i64 0)) 30, type := 4, pos := "law.go:86", after := #[{ on := 6, ground := Ground.data }, { on := 3, ground := Ground.guard }], guard := some (3, true) }) (v := ?v57) rfl rfl (by kernel_rfl) (by kernel_rfl) (by kernel_rfl) (fun _ _ _ h => h) (Or.inl ⟨by rfl, ?hy57⟩) (by assumption) ?rest57
      case hy57 =>
        intro w hSw
        go_simp
        first | done | with_reducible rfl
      try simp only [Act.put, List.setIfInBounds_toArray, List.set_cons_zero, List.set_cons_succ]
      refine tkH (i := 8) (d := some 114) (oi := { dst := some 114, op := Op.binOp BinOp.eql 4 (Operand.tmp 111) (Operand.tmp 113) 4, type := 4, pos := "law.go:86", after := #[{ on := 5, ground := Ground.data }, { on := 7, ground := Ground.data }, { on := 3, ground := Ground.guard }], guard := some (3, true) }) (v := ?v58) rfl rfl (by kernel_rfl) (by kernel_rfl) (by kernel_rfl) (fun _ _ _ h => h) (Or.inl ⟨by rfl, ?hy58⟩) (by assumption) ?rest58
      case hy58 =>
        intro w hSw
        go_simp
        first | done | with_reducible rfl
      try simp only [Act.put, List.setIfInBounds_toArray, List.set_cons_zero, List.set_cons_succ]
      refine tkH (i := 9) (d := some 115) (oi := { dst := some 115, op := Op.pick (Operand.tmp 109) (Operand.tmp 114) (Operand.const (Value.bool false)), type := 4, pos := "law.go:86", after := #[{ on := 3, ground := Ground.data }, { on := 8, ground := Ground.data }], guard := none }) (v := ?v59) rfl rfl (by kernel_rfl) (by kernel_rfl) (by kernel_rfl) (fun _ _ _ h => h) (Or.inl ⟨by rfl, ?hy59⟩) (by assumption) ?rest59
      case hy59 =>
        intro w hSw
        go_simp
        first | done | with_reducible rfl
      try simp only [Act.put, List.setIfInBounds_toArray, List.set_cons_zero, List.set_cons_succ]
      refine tkH (i := 10) (d := some 116) (oi := { dst := some 116, op := Op.move (Operand.tmp 115), type := 4, pos := "law.go:86", after := #[{ on := 9, ground := Ground.data }, { on := 3, ground := Ground.chain }], guard := none }) (v := ?v60) rfl rfl (by kernel_rfl) (by kernel_rfl) (by kernel_rfl) (fun _ _ _ h => h) (Or.inl ⟨by rfl, ?hy60⟩) (by assumption) ?rest60
      case hy60 =>
        intro w hSw
        go_simp
        first | done | with_reducible rfl
      try simp only [Act.put, List.setIfInBounds_toArray, List.set_cons_zero, List.set_cons_succ]
      refine tkH (i := 11) (d := some 117) (oi := { dst := some 117, op := Op.move (Operand.tmp 5), type := 29, pos := "law.go:86", after := #[{ on := 10, ground := Ground.guard }], guard := some (10, true) }) (v := ?v61) rfl rfl (by kernel_rfl) (by kernel_rfl) (by kernel_rfl) (fun _ _ _ h => h) (Or.inl ⟨by rfl, ?hy61⟩) (by assumption) ?rest61
      case hy61 =>
        intro w hSw
        go_simp
        first | done | with_reducible rfl
      try simp only [Act.put, List.setIfInBounds_toArray, List.set_cons_zero, List.set_cons_succ]
      refine tkH (i := 12) (d := some 118) (oi := { dst := some 118, op := Op.binOp BinOp.eql 29 (Operand.tmp 117) (Operand.const (Value.pointer none)) 29, type := 4, pos := "law.go:86", after := #[{ on := 11, ground := Ground.data }, { on := 10, ground := Ground.guard }], guard := some (10, true) }) (v := ?v62) rfl rfl (by kernel_rfl) (by kernel_rfl) (by kernel_rfl) (fun _ _ _ h => h) (Or.inl ⟨by rfl, ?hy62⟩) (by assumption) ?rest62
      case hy62 =>
        intro w hSw
        go_simp
        first | done | with_reducible rfl
      try simp only [Act.put, List.setIfInBounds_toArray, List.set_cons_zero, List.set_cons_succ]
      refine tkH (i := 13) (d := some 119) (oi := { dst := some 119, op := Op.move (Operand.tmp 118), type := 4, pos := "law.go:86", after := #[{ on := 12, ground := Ground.data }, { on := 10, ground := Ground.chain }, { on := 10, ground := Ground.guard }], guard := some (10, true) }) (v := ?v63) rfl rfl (by kernel_rfl) (by kernel_rfl) (by kernel_rfl) (fun _ _ _ h => h) (Or.inl ⟨by rfl, ?hy63⟩) (by assumption) ?rest63
      case hy63 =>
        intro w hSw
        go_simp
        first | done | with_reducible rfl
      try simp only [Act.put, List.setIfInBounds_toArray, List.set_cons_zero, List.set_cons_succ]
      refine tkH (i := 14) (d := some 120) (oi := { dst := some 120, op := Op.move (Operand.tmp 7), type := 33, pos := "law.go:86", after := #[{ on := 13, ground := Ground.guard }], guard := some (13, false) }) (v := ?v64) rfl rfl (by kernel_rfl) (by kernel_rfl) (by kernel_rfl) (fun _ _ _ h => h) (Or.inl ⟨by rfl, ?hy64⟩) (by assumption) ?rest64
      case hy64 =>
        intro w hSw
        go_simp
        first | done | with_reducible rfl
      try simp only [Act.put, List.setIfInBounds_toArray, List.set_cons_zero, List.set_cons_succ]
      refine tkH (i := 15) (d := some 121) (oi := { dst := some 121, op := Op.binOp BinOp.eql 33 (Operand.tmp 120) (Operand.const (Value.pointer none)) 33, type := 4, pos := "law.go:86", after := #[{ on := 14, ground := Ground.data }, { on := 13, ground := Ground.guard }], guard := some (13, false) }) (v := ?v65) rfl rfl (by kernel_rfl) (by kernel_rfl) (by kernel_rfl) (fun _ _ _ h => h) (Or.inl ⟨by rfl, ?hy65⟩) (by assumption) ?rest65
      case hy65 =>
        intro w hSw
        go_simp
        first | done | with_reducible rfl
      try simp only [Act.put, List.setIfInBounds_toArray, List.set_cons_zero, List.set_cons_succ]
      refine tkH (i := 16) (d := some 122) (oi := { dst := some 122, op := Op.pick (Operand.tmp 119) (Operand.const (Value.bool true)) (Operand.tmp 121), type := 4, pos := "law.go:86", after := #[{ on := 13, ground := Ground.data }, { on := 15, ground := Ground.data }, { on := 10, ground := Ground.guard }], guard := some (10, true) }) (v := ?v66) rfl rfl (by kernel_rfl) (by kernel_rfl) (by kernel_rfl) (fun _ _ _ h => h) (Or.inl ⟨by rfl, ?hy66⟩) (by assumption) ?rest66
      case hy66 =>
        intro w hSw
        go_simp
        first | done | with_reducible rfl
      try simp only [Act.put, List.setIfInBounds_toArray, List.set_cons_zero, List.set_cons_succ]
      refine tkH (i := 17) (d := some 123) (oi := { dst := some 123, op := Op.move (Operand.tmp 122), type := 4, pos := "law.go:86", after := #[{ on := 16, ground := Ground.data }, { on := 13, ground := Ground.chain }, { on := 10, ground := Ground.guard }], guard := some (10, true) }) (v := ?v67) rfl rfl (by kernel_rfl) (by kernel_rfl) (by kernel_rfl) (fun _ _ _ h => h) (Or.inl ⟨by rfl, ?hy67⟩) (by assumption) ?rest67
      case hy67 =>
        intro w hSw
        go_simp
        first | done | with_reducible rfl
      try simp only [Act.put, List.setIfInBounds_toArray, List.set_cons_zero, List.set_cons_succ]
      refine tkH (i := 18) (d := some 124) (oi := { dst := some 124, op := Op.move (Operand.tmp 5), type := 29, pos := "law.go:86", after := #[{ on := 17, ground := Ground.guard }], guard := some (17, false) }) (v := ?v68) rfl rfl (by kernel_rfl) (by kernel_rfl) (by kernel_rfl) (fun _ _ _ h => h) (Or.inl ⟨by rfl, ?hy68⟩) (by assumption) ?rest68
      case hy68 =>
        intro w hSw
        go_simp
        first | done | with_reducible rfl
      try simp only [Act.put, List.setIfInBounds_toArray, List.set_cons_zero, List.set_cons_succ]
      refine wpAnyH_ready (rs := [19]) (by kernel_rfl) (by simp) ?_
      refine AllReadyH.cons (o := { dst := some 125, op := Op.call { callee := Callee.value (Operand.func 9), args := #[Operand.tmp 124], argTypes := #[29] }, type := 3, pos := "law.go:86", after := #[{ on := 18, ground := Ground.data }, { on := 17, ground := Ground.chain }, { on := 17, ground := Ground.guard }], guard := some (17, false) }) rfl (fun K hK => ?_) AllReadyH.nil
      go_simp
      refine HRT.out.mono ?_
      rintro e wr1 ⟨rfl, hwr1⟩
      subst hwr1
      go_wp2_with fail
      refine hK.out _ _ (⟨y4, y2⟩) (fun hHeld => ?_)
      clear hK K
      try simp only [Act.put, List.setIfInBounds_toArray, List.set_cons_zero, List.set_cons_succ]
      refine tkH (i := 20) (d := some 126) (oi := { dst := some 126, op := Op.binOp BinOp.eql 3 (Operand.tmp 125) (Operand.const (Value.int IntKind.i64 (-1))) 3, type := 4, pos := "law.go:86", after := #[{ on := 19, ground := Ground.data }, { on := 17, ground := Ground.guard }], guard := some (17, false) }) (v := ?v70) rfl rfl (by kernel_rfl) (by kernel_rfl) (by kernel_rfl) (fun _ _ _ h => h) (Or.inl ⟨by rfl, ?hy70⟩) (by assumption) ?rest70
      case hy70 =>
        intro w hSw
        go_simp
        first | done | with_reducible rfl
      try simp only [Act.put, List.setIfInBounds_toArray, List.set_cons_zero, List.set_cons_succ]
      refine tkH (i := 21) (d := some 127) (oi := { dst := some 127, op := Op.move (Operand.tmp 126), type := 4, pos := "law.go:86", after := #[{ on := 20, ground := Ground.data }, { on := 19, ground := Ground.chain }, { on := 17, ground := Ground.guard }], guard := some (17, false) }) (v := ?v71) rfl rfl (by kernel_rfl) (by kernel_rfl) (by kernel_rfl) (fun _ _ _ h => h) (Or.inl ⟨by rfl, ?hy71⟩) (by assumption) ?rest71
      case hy71 =>
        intro w hSw
        go_simp
        first | done | with_reducible rfl
      try simp only [Act.put, List.setIfInBounds_toArray, List.set_cons_zero, List.set_cons_succ]
      refine tkH (i := 22) (d := some 128) (oi := { dst := some 128, op := Op.move (Operand.tmp 5), type := 29, pos := "law.go:86", after := #[{ on := 21, ground := Ground.guard }], guard := some (21, true) }) (v := ?v72) rfl rfl (by kernel_rfl) (by kernel_rfl) (by kernel_rfl) (fun _ _ _ h => h) (Or.inl ⟨by rfl, ?hy72⟩) (by assumption) ?rest72
      case hy72 =>
        intro w hSw
        go_simp
        first | done | with_reducible rfl
      try simp only [Act.put, List.setIfInBounds_toArray, List.set_cons_zero, List.set_cons_succ]
      refine tkH (i := 24) (d := some 130) (oi := { dst := some 130, op := Op.move (Operand.tmp 7), type := 33, pos := "law.go:86", after := #[{ on := 21, ground := Ground.guard }], guard := some (21, true) }) (v := ?v73) rfl rfl (by kernel_rfl) (by kernel_rfl) (by kernel_rfl) (fun _ _ _ h => h) (Or.inl ⟨by rfl, ?hy73⟩) (by assumption) ?rest73
      case hy73 =>
        intro w hSw
        go_simp
        first | done | with_reducible rfl
      try simp only [Act.put, List.setIfInBounds_toArray, List.set_cons_zero, List.set_cons_succ]
      refine tkH (i := 25) (d := some 131) (oi := { dst := some 131, op := Op.nilCheck (Operand.tmp 130), type := 0, pos := "law.go:86", after := #[{ on := 24, ground := Ground.data }, { on := 21, ground := Ground.guard }], guard := some (21, true) }) (v := ?v74) rfl rfl (by kernel_rfl) (by kernel_rfl) (by kernel_rfl) (fun _ _ _ h => h) (Or.inl ⟨by rfl, ?hy74⟩) (by assumption) ?rest74
      case hy74 =>
        intro w hSw
        go_simp
        first | done | with_reducible rfl
      try simp only [Act.put, List.setIfInBounds_toArray, List.set_cons_zero, List.set_cons_succ]
      refine tkH (i := 26) (d := some 132) (oi := { dst := some 132, op := Op.fieldAddr 40 (Operand.tmp 131) 4, type := 0, pos := "law.go:86", after := #[{ on := 25, ground := Ground.data }, { on := 21, ground := Ground.guard }], guard := some (21, true) }) (v := ?v75) rfl rfl (by kernel_rfl) (by kernel_rfl) (by kernel_rfl) (fun _ _ _ h => h) (Or.inl ⟨by rfl, ?hy75⟩) (by assumption) ?rest75
      case hy75 =>
        intro w hSw
        go_simp
        first | done | with_reducible rfl
      try simp only [Act.put, List.setIfInBounds_toArray, List.set_cons_zero, List.set_cons_succ]
      refine tkH (i := 27) (d := some 133) (oi := { dst := some 133, op := Op.load 3 (Operand.tmp 132), type := 3, pos := "law.go:86", after := #[{ on := 26, ground := Ground.data }, { on := 21, ground := Ground.guard }], guard := some (21, true) }) (v := ?v76) rfl rfl (by kernel_rfl) (by kernel_rfl) (by kernel_rfl) (fun _ _ _ h => h) (Or.inl ⟨by rfl, ?hy76⟩) (by assumption) ?rest76
      case hy76 =>
        intro w hSw
        go_simp
        first | done | with_reducible rfl
      try simp only [Act.put, List.setIfInBounds_toArray, List.set_cons_zero, List.set_cons_succ]
      refine wpAnyH_ready (rs := [23]) (by kernel_rfl) (by simp) ?_
      refine AllReadyH.cons (o := { dst := some 129, op := Op.call { callee := Callee.value (Operand.func 10), args := #[Operand.tmp 128], argTypes := #[29] }, type := 3, pos := "law.go:86", after := #[{ on := 22, ground := Ground.data }, { on := 21, ground := Ground.chain }, { on := 21, ground := Ground.guard }], guard := some (21, true) }) rfl (fun K hK => ?_) AllReadyH.nil
      go_simp
      refine HFR.out.mono ?_
      rintro e wr2 ⟨rfl, hwr2⟩
      subst hwr2
      go_wp2_with fail
      refine hK.out _ _ (⟨y4, y2⟩) (fun hHeld => ?_)
      clear hK K
      try simp only [Act.put, List.setIfInBounds_toArray, List.set_cons_zero, List.set_cons_succ]
      refine tkH (i := 28) (d := some 134) (oi := { dst := some 134, op := Op.binOp BinOp.eql 3 (Operand.tmp 129) (Operand.tmp 133) 3, type := 4, pos := "law.go:86", after := #[{ on := 23, ground := Ground.data }, { on := 27, ground := Ground.data }, { on := 21, ground := Ground.guard }], guard := some (21, true) }) (v := ?v78) rfl rfl (by kernel_rfl) (by kernel_rfl) (by kernel_rfl) (fun _ _ _ h => h) (Or.inl ⟨by rfl, ?hy78⟩) (by assumption) ?rest78
      case hy78 =>
        intro w hSw
        go_simp
        first | done | with_reducible rfl
      try simp only [Act.put, List.setIfInBounds_toArray, List.set_cons_zero, List.set_cons_succ]
      refine tkH (i := 29) (d := some 135) (oi := { dst := some 135, op := Op.pick (Operand.tmp 127) (Operand.tmp 134) (Operand.const (Value.bool false)), type := 4, pos := "law.go:86", after := #[{ on := 21, ground := Ground.data }, { on := 28, ground := Ground.data }, { on := 17, ground := Ground.guard }], guard := some (17, false) }) (v := ?v79) rfl rfl (by kernel_rfl) (by kernel_rfl) (by kernel_rfl) (fun _ _ _ h => h) (Or.inl ⟨by rfl, ?hy79⟩) (by assumption) ?rest79
      case hy79 =>
        intro w hSw
        go_simp
        first | done | with_reducible rfl
      try simp only [Act.put, List.setIfInBounds_toArray, List.set_cons_zero, List.set_cons_succ]
      refine tkH (i := 30) (d := some 136) (oi := { dst := some 136, op := Op.move (Operand.tmp 135), type := 4, pos := "law.go:86", after := #[{ on := 29, ground := Ground.data }, { on := 23, ground := Ground.chain }, { on := 17, ground := Ground.guard }], guard := some (17, false) }) (v := ?v80) rfl rfl (by kernel_rfl) (by kernel_rfl) (by kernel_rfl) (fun _ _ _ h => h) (Or.inl ⟨by rfl, ?hy80⟩) (by assumption) ?rest80
      case hy80 =>
        intro w hSw
        go_simp
        first | done | with_reducible rfl
      try simp only [Act.put, List.setIfInBounds_toArray, List.set_cons_zero, List.set_cons_succ]
      refine tkH (i := 31) (d := some 137) (oi := { dst := some 137, op := Op.move (Operand.tmp 5), type := 29, pos := "law.go:86", after := #[{ on := 30, ground := Ground.guard }], guard := some (30, true) }) (v := ?v81) rfl rfl (by kernel_rfl) (by kernel_rfl) (by kernel_rfl) (fun _ _ _ h => h) (Or.inl ⟨by rfl, ?hy81⟩) (by assumption) ?rest81
      case hy81 =>
        intro w hSw
        go_simp
        first | done | with_reducible rfl
      try simp only [Act.put, List.setIfInBounds_toArray, List.set_cons_zero, List.set_cons_succ]
      refine wpAnyH_ready (rs := [32]) (by kernel_rfl) (by simp) ?_
      refine AllReadyH.cons (o := { dst := some 138, op := Op.call { callee := Callee.value (Operand.func 11), args := #[Operand.tmp 137], argTypes := #[29] }, type := 3, pos := "law.go:86", after := #[{ on := 31, ground := Ground.data }, { on := 30, ground := Ground.chain }, { on := 30, ground := Ground.guard }], guard := some (30, true) }) rfl (fun K hK => ?_) AllReadyH.nil
      go_simp
      refine HGE.out.mono ?_
      rintro e wr3 ⟨rfl, hwr3⟩
      subst hwr3
      go_wp2_with fail
      refine hK.out _ _ (⟨y4, y2⟩) (fun hHeld => ?_)
      clear hK K
      try simp only [Act.put, List.setIfInBounds_toArray, List.set_cons_zero, List.set_cons_succ]
      refine tkH (i := 33) (d := some 139) (oi := { dst := some 139, op := Op.binOp BinOp.eql 3 (Operand.tmp 138) (Operand.const (Value.int IntKind.i64 2)) 3, type := 4, pos := "law.go:86", after := #[{ on := 32, ground := Ground.data }, { on := 30, ground := Ground.guard }], guard := some (30, true) }) (v := ?v83) rfl rfl (by kernel_rfl) (by kernel_rfl) (by kernel_rfl) (fun _ _ _ h => h) (Or.inl ⟨by rfl, ?hy83⟩) (by assumption) ?rest83
      case hy83 =>
        intro w hSw
        go_simp
        first | done | with_reducible rfl
      try simp only [Act.put, List.setIfInBounds_toArray, List.set_cons_zero, List.set_cons_succ]
      refine tkH (i := 34) (d := some 140) (oi := { dst := some 140, op := Op.pick (Operand.tmp 136) (Operand.tmp 139) (Operand.const (Value.bool false)), type := 4, pos := "law.go:86", after := #[{ on := 30, ground := Ground.data }, { on := 33, ground := Ground.data }, { on := 17, ground := Ground.guard }], guard := some (17, false) }) (v := ?v84) rfl rfl (by kernel_rfl) (by kernel_rfl) (by kernel_rfl) (fun _ _ _ h => h) (Or.inl ⟨by rfl, ?hy84⟩) (by assumption) ?rest84
      case hy84 =>
        intro w hSw
        go_simp
        first | done | with_reducible rfl
      try simp only [Act.put, List.setIfInBounds_toArray, List.set_cons_zero, List.set_cons_succ]
      refine tkH (i := 35) (d := some 141) (oi := { dst := some 141, op := Op.move (Operand.tmp 140), type := 4, pos := "law.go:86", after := #[{ on := 34, ground := Ground.data }, { on := 32, ground := Ground.chain }, { on := 17, ground := Ground.guard }], guard := some (17, false) }) (v := ?v85) rfl rfl (by kernel_rfl) (by kernel_rfl) (by kernel_rfl) (fun _ _ _ h => h) (Or.inl ⟨by rfl, ?hy85⟩) (by assumption) ?rest85
      case hy85 =>
        intro w hSw
        go_simp
        first | done | with_reducible rfl
      try simp only [Act.put, List.setIfInBounds_toArray, List.set_cons_zero, List.set_cons_succ]
      refine tkH (i := 36) (d := some 142) (oi := { dst := some 142, op := Op.move (Operand.tmp 5), type := 29, pos := "law.go:86", after := #[{ on := 35, ground := Ground.guard }], guard := some (35, true) }) (v := ?v86) rfl rfl (by kernel_rfl) (by kernel_rfl) (by kernel_rfl) (fun _ _ _ h => h) (Or.inl ⟨by rfl, ?hy86⟩) (by assumption) ?rest86
      case hy86 =>
        intro w hSw
        go_simp
        first | done | with_reducible rfl
      try simp only [Act.put, List.setIfInBounds_toArray, List.set_cons_zero, List.set_cons_succ]
      refine tkH (i := 38) (d := some 144) (oi := { dst := some 144, op := Op.fieldAddr 24 (Operand.tmp 1) 2, type := 0, pos := "law.go:86", after := #[{ on := 35, ground := Ground.guard }], guard := some (35, true) }) (v := ?v87) rfl rfl (by kernel_rfl) (by kernel_rfl) (by kernel_rfl) (fun _ _ _ h => h) (Or.inl ⟨by rfl, ?hy87⟩) (by assumption) ?rest87
      case hy87 =>
        intro w hSw
        go_simp
        first | done | with_reducible rfl
      try simp only [Act.put, List.setIfInBounds_toArray, List.set_cons_zero, List.set_cons_succ]
      refine tkH (i := 39) (d := some 145) (oi := { dst := some 145, op := Op.load 3 (Operand.tmp 144), type := 3, pos := "law.go:86", after := #[{ on := 38, ground := Ground.data }, { on := 35, ground := Ground.guard }], guard := some (35, true) }) (v := ?v88) rfl rfl (by kernel_rfl) (by kernel_rfl) (by kernel_rfl) (fun _ _ _ h => h) (Or.inl ⟨by rfl, ?hy88⟩) (by assumption) ?rest88
      case hy88 =>
        intro w hSw
        go_simp
        first | done | with_reducible rfl
      try simp only [Act.put, List.setIfInBounds_toArray, List.set_cons_zero, List.set_cons_succ]
      refine wpAnyH_ready (rs := [37]) (by kernel_rfl) (by simp) ?_
      refine AllReadyH.cons (o := { dst := some 143, op := Op.call { callee := Callee.value (Operand.func 14), args := #[Operand.tmp 142], argTypes := #[29] }, type := 3, pos := "law.go:86", after := #[{ on := 36, ground := Ground.data }, { on := 35, ground := Ground.chain }, { on := 35, ground := Ground.guard }], guard := some (35, true) }) rfl (fun K hK => ?_) AllReadyH.nil
      go_simp
      refine HFE.out.mono ?_
      rintro e wf ⟨rfl, hfwf⟩
      have hwf := Fr.trans h0 hfwf (fun _ _ f => f)
      go_wp2_with fail
      refine hK.out _ _ (⟨cells_stay2 hwf r4, cells_stay2 hwf r2⟩) (fun hHeld => ?_)
      clear hK K
      try simp only [Act.put, List.setIfInBounds_toArray, List.set_cons_zero, List.set_cons_succ]
      refine tkH (i := 40) (d := some 146) (oi := { dst := some 146, op := Op.binOp BinOp.eql 3 (Operand.tmp 143) (Operand.tmp 145) 3, type := 4, pos := "law.go:86", after := #[{ on := 37, ground := Ground.data }, { on := 39, ground := Ground.data }, { on := 35, ground := Ground.guard }], guard := some (35, true) }) (v := ?v90) rfl rfl (by kernel_rfl) (by kernel_rfl) (by kernel_rfl) (fun _ _ _ h => h) (Or.inl ⟨by rfl, ?hy90⟩) (by assumption) ?rest90
      case hy90 =>
        intro w hSw
        go_simp
        first | done | with_reducible rfl
      try simp only [Act.put, List.setIfInBounds_toArray, List.set_cons_zero, List.set_cons_succ]
      refine tkH (i := 41) (d := some 147) (oi := { dst := some 147, op := Op.pick (Operand.tmp 141) (Operand.tmp 146) (Operand.const (Value.bool false)), type := 4, pos := "law.go:86", after := #[{ on := 35, ground := Ground.data }, { on := 40, ground := Ground.data }, { on := 17, ground := Ground.guard }], guard := some (17, false) }) (v := ?v91) rfl rfl (by kernel_rfl) (by kernel_rfl) (by kernel_rfl) (fun _ _ _ h => h) (Or.inl ⟨by rfl, ?hy91⟩) (by assumption) ?rest91
      case hy91 =>
        intro w hSw
        go_simp
        first | done | with_reducible rfl
      try simp only [Act.put, List.setIfInBounds_toArray, List.set_cons_zero, List.set_cons_succ]
      refine tkH (i := 42) (d := some 148) (oi := { dst := some 148, op := Op.pick (Operand.tmp 123) (Operand.const (Value.bool true)) (Operand.tmp 147), type := 4, pos := "law.go:86", after := #[{ on := 17, ground := Ground.data }, { on := 41, ground := Ground.data }, { on := 10, ground := Ground.guard }], guard := some (10, true) }) (v := ?v92) rfl rfl (by kernel_rfl) (by kernel_rfl) (by kernel_rfl) (fun _ _ _ h => h) (Or.inl ⟨by rfl, ?hy92⟩) (by assumption) ?rest92
      case hy92 =>
        intro w hSw
        go_simp
        first | done | with_reducible rfl
      try simp only [Act.put, List.setIfInBounds_toArray, List.set_cons_zero, List.set_cons_succ]
      refine tkH (i := 43) (d := some 149) (oi := { dst := some 149, op := Op.pick (Operand.tmp 116) (Operand.tmp 148) (Operand.const (Value.bool false)), type := 4, pos := "law.go:86", after := #[{ on := 10, ground := Ground.data }, { on := 42, ground := Ground.data }], guard := none }) (v := ?v93) rfl rfl (by kernel_rfl) (by kernel_rfl) (by kernel_rfl) (fun _ _ _ h => h) (Or.inl ⟨by rfl, ?hy93⟩) (by assumption) ?rest93
      case hy93 =>
        intro w hSw
        go_simp
        first | done | with_reducible rfl
      try simp only [Act.put, List.setIfInBounds_toArray, List.set_cons_zero, List.set_cons_succ]
      refine tkH (i := 44) (d := some 150) (oi := { dst := some 150, op := Op.move (Operand.tmp 149), type := 4, pos := "law.go:86", after := #[{ on := 43, ground := Ground.data }, { on := 37, ground := Ground.chain }], guard := none }) (v := ?v94) rfl rfl (by kernel_rfl) (by kernel_rfl) (by kernel_rfl) (fun _ _ _ h => h) (Or.inl ⟨by rfl, ?hy94⟩) (by assumption) ?rest94
      case hy94 =>
        intro w hSw
        go_simp
        first | done | with_reducible rfl
      try simp only [Act.put, List.setIfInBounds_toArray, List.set_cons_zero, List.set_cons_succ]
      refine tkH (i := 45) (d := some 151) (oi := { dst := some 151, op := Op.move (Operand.tmp 3), type := 25, pos := "law.go:86", after := #[{ on := 44, ground := Ground.guard }], guard := some (44, true) }) (v := ?v95) rfl rfl (by kernel_rfl) (by kernel_rfl) (by kernel_rfl) (fun _ _ _ h => h) (Or.inl ⟨by rfl, ?hy95⟩) (by assumption) ?rest95
      case hy95 =>
        intro w hSw
        go_simp
        first | done | with_reducible rfl
      try simp only [Act.put, List.setIfInBounds_toArray, List.set_cons_zero, List.set_cons_succ]
      refine tkH (i := 47) (d := some 153) (oi := { dst := some 153, op := Op.move (Operand.tmp 4), type := 26, pos := "law.go:86", after := #[{ on := 44, ground := Ground.guard }], guard := some (44, true) }) (v := ?v96) rfl rfl (by kernel_rfl) (by kernel_rfl) (by kernel_rfl) (fun _ _ _ h => h) (Or.inl ⟨by rfl, ?hy96⟩) (by assumption) ?rest96
      case hy96 =>
        intro w hSw
        go_simp
        first | done | with_reducible rfl
      try simp only [Act.put, List.setIfInBounds_toArray, List.set_cons_zero, List.set_cons_succ]
      refine wpAnyH_ready (rs := [46]) (by kernel_rfl) (by simp) ?_
      refine AllReadyH.cons (o := { dst := some 152, op := Op.call { callee := Callee.value (Operand.func 15), args := #[Operand.tmp 151], argTypes := #[25] }, type := 9, pos := "law.go:86", after := #[{ on := 45, ground := Ground.data }, { on := 44, ground := Ground.chain }, { on := 44, ground := Ground.guard }], guard := some (44, true) }) rfl (fun K hK => ?_) AllReadyH.nil
      go_simp
      refine (image_c _ g bm2 (formatP S f c n).2.1 (HA9.out.stay hwf) HOK8.out.1).mono ?_
      rintro e wa ⟨rfl, hfwa⟩
      have hwa := Fr.trans hwf hfwa (fun _ _ f => f)
      go_wp2_with fail
      refine hK.out _ _ (⟨cells_stay2 hwa r4, cells_stay2 hwa r2⟩) (fun hHeld => ?_)
      clear hK K
      try simp only [Act.put, List.setIfInBounds_toArray, List.set_cons_zero, List.set_cons_succ]
      refine wpAnyH_ready (rs := [48]) (by kernel_rfl) (by simp) ?_
      refine AllReadyH.cons (o := { dst := some 154, op := Op.call { callee := Callee.value (Operand.func 16), args := #[Operand.tmp 153], argTypes := #[26] }, type := 9, pos := "law.go:86", after := #[{ on := 47, ground := Ground.data }, { on := 46, ground := Ground.chain }, { on := 44, ground := Ground.guard }], guard := some (44, true) }) rfl (fun K hK => ?_) AllReadyH.nil
      go_simp
      refine (rimage_c _ m u1 u2 (formatP S f c n).2.1 (RC.stay HR9.out hwa) HOK8.out.1).mono ?_
      rintro e wb ⟨rfl, hfwb⟩
      have hwb := Fr.trans hwa hfwb (fun _ _ f => f)
      go_wp2_with fail
      refine hK.out _ _ (⟨cells_stay2 hwb r4, cells_stay2 hwb r2⟩) (fun hHeld => ?_)
      clear hK K
      try simp only [Act.put, List.setIfInBounds_toArray, List.set_cons_zero, List.set_cons_succ]
      refine tkH (i := 49) (d := some 155) (oi := { dst := some 155, op := Op.binOp BinOp.eql 9 (Operand.tmp 152) (Operand.tmp 154) 9, type := 4, pos := "law.go:86", after := #[{ on := 46, ground := Ground.data }, { on := 48, ground := Ground.data }, { on := 44, ground := Ground.guard }], guard := some (44, true) }) (v := ?v99) rfl rfl (by kernel_rfl) (by kernel_rfl) (by kernel_rfl) (fun _ _ _ h => h) (Or.inl ⟨by rfl, ?hy99⟩) (by assumption) ?rest99
      case hy99 =>
        intro w hSw
        go_simp
        first | done | with_reducible rfl
      try simp only [Act.put, List.setIfInBounds_toArray, List.set_cons_zero, List.set_cons_succ]
      refine tkH (i := 50) (d := some 156) (oi := { dst := some 156, op := Op.pick (Operand.tmp 150) (Operand.tmp 155) (Operand.const (Value.bool false)), type := 4, pos := "law.go:86", after := #[{ on := 44, ground := Ground.data }, { on := 49, ground := Ground.data }], guard := none }) (v := ?v100) rfl rfl (by kernel_rfl) (by kernel_rfl) (by kernel_rfl) (fun _ _ _ h => h) (Or.inl ⟨by rfl, ?hy100⟩) (by assumption) ?rest100
      case hy100 =>
        intro w hSw
        go_simp
        first | done | with_reducible rfl
      try simp only [Act.put, List.setIfInBounds_toArray, List.set_cons_zero, List.set_cons_succ]
      refine tkH (i := 51) (d := some 157) (oi := { dst := some 157, op := Op.move (Operand.tmp 156), type := 4, pos := "law.go:86", after := #[{ on := 50, ground := Ground.data }, { on := 48, ground := Ground.chain }], guard := none }) (v := ?v101) rfl rfl (by kernel_rfl) (by kernel_rfl) (by kernel_rfl) (fun _ _ _ h => h) (Or.inl ⟨by rfl, ?hy101⟩) (by assumption) ?rest101
      case hy101 =>
        intro w hSw
        go_simp
        first | done | with_reducible rfl
      try simp only [Act.put, List.setIfInBounds_toArray, List.set_cons_zero, List.set_cons_succ]
      refine tkH (i := 52) (d := some 158) (oi := { dst := some 158, op := Op.move (Operand.tmp 3), type := 25, pos := "law.go:86", after := #[{ on := 51, ground := Ground.guard }], guard := some (51, true) }) (v := ?v102) rfl rfl (by kernel_rfl) (by kernel_rfl) (by kernel_rfl) (fun _ _ _ h => h) (Or.inl ⟨by rfl, ?hy102⟩) (by assumption) ?rest102
      case hy102 =>
        intro w hSw
        go_simp
        first | done | with_reducible rfl
      try simp only [Act.put, List.setIfInBounds_toArray, List.set_cons_zero, List.set_cons_succ]
      refine tkH (i := 55) (d := some 161) (oi := { dst := some 161, op := Op.move (Operand.tmp 4), type := 26, pos := "law.go:86", after := #[{ on := 51, ground := Ground.guard }], guard := some (51, true) }) (v := ?v103) rfl rfl (by kernel_rfl) (by kernel_rfl) (by kernel_rfl) (fun _ _ _ h => h) (Or.inl ⟨by rfl, ?hy103⟩) (by assumption) ?rest103
      case hy103 =>
        intro w hSw
        go_simp
        first | done | with_reducible rfl
      try simp only [Act.put, List.setIfInBounds_toArray, List.set_cons_zero, List.set_cons_succ]
      refine wpAnyH_ready (rs := [53]) (by kernel_rfl) (by simp) ?_
      refine AllReadyH.cons (o := { dst := some 159, op := Op.call { callee := Callee.value (Operand.func 17), args := #[Operand.tmp 158], argTypes := #[25] }, type := 38, pos := "law.go:86", after := #[{ on := 52, ground := Ground.data }, { on := 51, ground := Ground.chain }, { on := 51, ground := Ground.guard }], guard := some (51, true) }) rfl (fun K hK => ?_) AllReadyH.nil
      go_simp
      refine (unsafe_c _ g bm2 (formatP S f c n).2.1 (HA9.out.stay hwb) HOK8.out.1).mono ?_
      rintro e wc ⟨vu, rfl, ⟨au, cu, rfl, _⟩, _, hfwc⟩
      have hwc := Fr.trans hwb hfwc (fun _ _ f => f)
      go_wp2_with fail
      refine hK.out _ _ (⟨cells_stay2 hwc r4, cells_stay2 hwc r2⟩) (fun hHeld => ?_)
      clear hK K
      try simp only [Act.put, List.setIfInBounds_toArray, List.set_cons_zero, List.set_cons_succ]
      refine tkH (i := 54) (d := some 160) (oi := { dst := some 160, op := Op.call { callee := Callee.builtin Builtin.len, args := #[Operand.tmp 159], argTypes := #[38] }, type := 3, pos := "law.go:86", after := #[{ on := 53, ground := Ground.data }, { on := 51, ground := Ground.guard }], guard := some (51, true) }) (v := ?v105) rfl rfl (by kernel_rfl) (by kernel_rfl) (by kernel_rfl) (fun _ _ _ h => h) (Or.inl ⟨by rfl, ?hy105⟩) (by assumption) ?rest105
      case hy105 =>
        intro w hSw
        go_simp
        first | done | with_reducible rfl
      try simp only [Act.put, List.setIfInBounds_toArray, List.set_cons_zero, List.set_cons_succ]
      refine wpAnyH_ready (rs := [56]) (by kernel_rfl) (by simp) ?_
      refine AllReadyH.cons (o := { dst := some 162, op := Op.call { callee := Callee.value (Operand.func 18), args := #[Operand.tmp 161], argTypes := #[26] }, type := 38, pos := "law.go:86", after := #[{ on := 55, ground := Ground.data }, { on := 53, ground := Ground.chain }, { on := 51, ground := Ground.guard }], guard := some (51, true) }) rfl (fun K hK => ?_) AllReadyH.nil
      go_simp
      refine (runsafe_v _ m u1 u2 (formatP S f c n).2.1 (RC.stay HR9.out hwc) HOK8.out.1).mono ?_
      rintro e wd ⟨vr, rfl, ⟨ar, cr, rfl, _⟩, hfwd⟩
      have hwd := Fr.trans hwc hfwd (fun _ _ f => f)
      go_wp2_with fail
      refine hK.out _ _ (⟨cells_stay2 hwd r4, cells_stay2 hwd r2⟩) (fun hHeld => ?_)
      clear hK K
      try simp only [Act.put, List.setIfInBounds_toArray, List.set_cons_zero, List.set_cons_succ]
      refine tkH (i := 57) (d := some 163) (oi := { dst := some 163, op := Op.call { callee := Callee.builtin Builtin.len, args := #[Operand.tmp 162], argTypes := #[38] }, type := 3, pos := "law.go:86", after := #[{ on := 56, ground := Ground.data }, { on := 51, ground := Ground.guard }], guard := some (51, true) }) (v := ?v107) rfl rfl (by kernel_rfl) (by kernel_rfl) (by kernel_rfl) (fun _ _ _ h => h) (Or.inl ⟨by rfl, ?hy107⟩) (by assumption) ?rest107
      case hy107 =>
        intro w hSw
        go_simp
        first | done | with_reducible rfl
      try simp only [Act.put, List.setIfInBounds_toArray, List.set_cons_zero, List.set_cons_succ]
      refine tkH (i := 58) (d := some 164) (oi := { dst := some 164, op := Op.binOp BinOp.eql 3 (Operand.tmp 160) (Operand.tmp 163) 3, type := 4, pos := "law.go:86", after := #[{ on := 54, ground := Ground.data }, { on := 57, ground := Ground.data }, { on := 51, ground := Ground.guard }], guard := some (51, true) }) (v := ?v108) rfl rfl (by kernel_rfl) (by kernel_rfl) (by kernel_rfl) (fun _ _ _ h => h) (Or.inl ⟨by rfl, ?hy108⟩) (by assumption) ?rest108
      case hy108 =>
        intro w hSw
        go_simp
        first | done | with_reducible rfl
      try simp only [Act.put, List.setIfInBounds_toArray, List.set_cons_zero, List.set_cons_succ]
      refine tkH (i := 59) (d := some 165) (oi := { dst := some 165, op := Op.pick (Operand.tmp 157) (Operand.tmp 164) (Operand.const (Value.bool false)), type := 4, pos := "law.go:86", after := #[{ on := 51, ground := Ground.data }, { on := 58, ground := Ground.data }], guard := none }) (v := ?v109) rfl rfl (by kernel_rfl) (by kernel_rfl) (by kernel_rfl) (fun _ _ _ h => h) (Or.inl ⟨by rfl, ?hy109⟩) (by assumption) ?rest109
      case hy109 =>
        intro w hSw
        go_simp
        first | done | with_reducible rfl
      try simp only [Act.put, List.setIfInBounds_toArray, List.set_cons_zero, List.set_cons_succ]
      refine tkH (i := 60) (d := some 2) (oi := { dst := some 2, op := Op.assign (Operand.tmp 165), type := 4, pos := "law.go:86", after := #[{ on := 59, ground := Ground.data }, { on := 56, ground := Ground.chain }, { on := 0, ground := Ground.phase }, { on := 1, ground := Ground.phase }, { on := 2, ground := Ground.phase }, { on := 3, ground := Ground.phase }, { on := 4, ground := Ground.phase }, { on := 5, ground := Ground.phase }, { on := 6, ground := Ground.phase }, { on := 7, ground := Ground.phase }, { on := 8, ground := Ground.phase }, { on := 9, ground := Ground.phase }, { on := 10, ground := Ground.phase }, { on := 11, ground := Ground.phase }, { on := 12, ground := Ground.phase }, { on := 13, ground := Ground.phase }, { on := 14, ground := Ground.phase }, { on := 15, ground := Ground.phase }, { on := 16, ground := Ground.phase }, { on := 17, ground := Ground.phase }, { on := 18, ground := Ground.phase }, { on := 19, ground := Ground.phase }, { on := 20, ground := Ground.phase }, { on := 21, ground := Ground.phase }, { on := 22, ground := Ground.phase }, { on := 23, ground := Ground.phase }, { on := 24, ground := Ground.phase }, { on := 25, ground := Ground.phase }, { on := 26, ground := Ground.phase }, { on := 27, ground := Ground.phase }, { on := 28, ground := Ground.phase }, { on := 29, ground := Ground.phase }, { on := 30, ground := Ground.phase }, { on := 31, ground := Ground.phase }, { on := 32, ground := Ground.phase }, { on := 33, ground := Ground.phase }, { on := 34, ground := Ground.phase }, { on := 35, ground := Ground.phase }, { on := 36, ground := Ground.phase }, { on := 37, ground := Ground.phase }, { on := 38, ground := Ground.phase }, { on := 39, ground := Ground.phase }, { on := 40, ground := Ground.phase }, { on := 41, ground := Ground.phase }, { on := 42, ground := Ground.phase }, { on := 43, ground := Ground.phase }, { on := 44, ground := Ground.phase }, { on := 45, ground := Ground.phase }, { on := 46, ground := Ground.phase }, { on := 47, ground := Ground.phase }, { on := 48, ground := Ground.phase }, { on := 49, ground := Ground.phase }, { on := 50, ground := Ground.phase }, { on := 51, ground := Ground.phase }, { on := 52, ground := Ground.phase }, { on := 53, ground := Ground.phase }, { on := 54, ground := Ground.phase }, { on := 55, ground := Ground.phase }, { on := 56, ground := Ground.phase }, { on := 57, ground := Ground.phase }, { on := 58, ground := Ground.phase }, { on := 59, ground := Ground.phase }], guard := none }) (v := ?v110) rfl rfl (by kernel_rfl) (by kernel_rfl) (by kernel_rfl) (fun _ _ _ h => h) (Or.inl ⟨by rfl, ?hy110⟩) (by assumption) ?rest110
      case hy110 =>
        intro w hSw
        go_simp
        first | done | with_reducible rfl
      try simp only [Act.put, List.setIfInBounds_toArray, List.set_cons_zero, List.set_cons_succ]
      refine wpAnyH_done (by kernel_rfl) ?_ _
      go_wp2_with fail
      go_ret
      refine ⟨rfl, ?_⟩
      exact HFIN.out _ hwd
  · obtain ⟨p, ml, mt, h3, hpd, _, _, _⟩ := HP3.out.2.1 P (by rw [hop])
    subst h3
    have HPD3 := hid hpd
    have HOP := hid hop
    clear hpd hop
    go_wp2_with fail
    refine HRO.out.mono ?_
    intro e4 w4 hp4
    obtain ⟨q, ub, h4, hrp, _, _⟩ := hp4.2.1 P (by rw [HOP.out])
    subst h4
    have HF4 := hid hp4.1
    have HPD4 := hid (HPD3.out.stay hp4.1)
    obtain ⟨cap4, hq4⟩ := hrp.pa.cells
    have q3 : w4.cell? ⟨q, 3, none⟩ = some (.int .i64 P.root) := cell_at hq4 3
    have q4 : w4.cell? ⟨q, 4, none⟩ = some (.int .i64 P.from_) := cell_at hq4 4
    have q5 : w4.cell? ⟨q, 5, none⟩ = some (.int .i64 P.gen) := cell_at hq4 5
    clear hp4 HRO hrp hq4
    go_wp2_with fail
    refine wp_region_held_drew (S := fun w' => w'.cell? ⟨q, 3, none⟩ = some (.int .i64 P.root) ∧ w'.cell? ⟨q, 4, none⟩ = some (.int .i64 P.from_) ∧ w'.cell? ⟨q, 5, none⟩ = some (.int .i64 P.gen)) (by kernel_rfl) (⟨q3, q4, q5⟩) (fun hHeld => ?_)
    refine wpAnyH_ready (rs := [0]) (by kernel_rfl) (by simp) ?_
    refine AllReadyH.cons (o := { dst := some 35, op := Op.call { callee := Callee.value (Operand.func 8), args := #[], argTypes := #[] }, type := 4, pos := "law.go:81", after := #[], guard := none }) rfl (fun K hK => ?_) AllReadyH.nil
    go_simp
    refine (fixed_c _).mono ?_
    rintro e w5 ⟨rfl, hf5⟩
    have HF5 := hid hf5
    have HPD5 := hid (HPD4.out.stay ((Fr.refl _ _).drew.trans hf5 (fun _ _ f => f)))
    have y3 := cells_stay2 ((Fr.refl (fun _ => False) _).drew.trans hf5 (fun _ _ f => f)) q3
    have y4 := cells_stay2 ((Fr.refl (fun _ => False) _).drew.trans hf5 (fun _ _ f => f)) q4
    have y5 := cells_stay2 ((Fr.refl (fun _ => False) _).drew.trans hf5 (fun _ _ f => f)) q5
    clear hf5
    go_wp2_with fail
    refine hK.out _ _ (⟨y3, y4, y5⟩) (fun hHeld => ?_)
    clear hK K
    try simp only [Act.put, List.setIfInBounds_toArray, List.set_cons_zero, List.set_cons_succ]
    refine tkH (i := 1) (d := some 36) (oi := { dst := some 36, op := Op.unOp UnOp.not 4 (Operand.tmp 35), type := 4, pos := "law.go:81", after := #[{ on := 0, ground := Ground.data }], guard := none }) (v := ?v173) rfl rfl (by kernel_rfl) (by kernel_rfl) (by kernel_rfl) (fun _ _ _ h => h) (Or.inl ⟨by rfl, ?hy173⟩) (by assumption) ?rest173
    case hy173 =>
      intro w hSw
      go_simp
      first | done | with_reducible rfl
    try simp only [Act.put, List.setIfInBounds_toArray, List.set_cons_zero, List.set_cons_succ]
    refine tkH (i := 2) (d := some 37) (oi := { dst := some 37, op := Op.move (Operand.tmp 36), type := 4, pos := "law.go:81", after := #[{ on := 1, ground := Ground.data }, { on := 0, ground := Ground.chain }], guard := none }) (v := ?v174) rfl rfl (by kernel_rfl) (by kernel_rfl) (by kernel_rfl) (fun _ _ _ h => h) (Or.inl ⟨by rfl, ?hy174⟩) (by assumption) ?rest174
    case hy174 =>
      intro w hSw
      go_simp
      first | done | with_reducible rfl
    try simp only [Act.put, List.setIfInBounds_toArray, List.set_cons_zero, List.set_cons_succ]
    refine tkH (i := 3) (d := some 38) (oi := { dst := some 38, op := Op.move (Operand.tmp 6), type := 30, pos := "law.go:81", after := #[{ on := 2, ground := Ground.guard }], guard := some (2, false) }) (v := ?v175) rfl rfl (by kernel_rfl) (by kernel_rfl) (by kernel_rfl) (fun _ _ _ h => h) (Or.inl ⟨by rfl, ?hy175⟩) (by assumption) ?rest175
    case hy175 =>
      intro w hSw
      go_simp
      first | done | with_reducible rfl
    try simp only [Act.put, List.setIfInBounds_toArray, List.set_cons_zero, List.set_cons_succ]
    refine tkH (i := 4) (d := some 39) (oi := { dst := some 39, op := Op.move (Operand.tmp 8), type := 30, pos := "law.go:81", after := #[{ on := 2, ground := Ground.guard }], guard := some (2, false) }) (v := ?v176) rfl rfl (by kernel_rfl) (by kernel_rfl) (by kernel_rfl) (fun _ _ _ h => h) (Or.inl ⟨by rfl, ?hy176⟩) (by assumption) ?rest176
    case hy176 =>
      intro w hSw
      go_simp
      first | done | with_reducible rfl
    try simp only [Act.put, List.setIfInBounds_toArray, List.set_cons_zero, List.set_cons_succ]
    refine tkH (i := 5) (d := some 40) (oi := { dst := some 40, op := Op.binOp BinOp.neq 30 (Operand.tmp 38) (Operand.tmp 39) 30, type := 4, pos := "law.go:81", after := #[{ on := 3, ground := Ground.data }, { on := 4, ground := Ground.data }, { on := 2, ground := Ground.guard }], guard := some (2, false) }) (v := ?v177) rfl rfl (by kernel_rfl) (by kernel_rfl) (by kernel_rfl) (fun _ _ _ h => h) (Or.inl ⟨by rfl, ?hy177⟩) (by assumption) ?rest177
    case hy177 =>
      intro w hSw
      go_simp
      first | done | with_reducible rfl
    try simp only [Act.put, List.setIfInBounds_toArray, List.set_cons_zero, List.set_cons_succ]
    refine tkH (i := 6) (d := some 41) (oi := { dst := some 41, op := Op.pick (Operand.tmp 37) (Operand.const (Value.bool true)) (Operand.tmp 40), type := 4, pos := "law.go:81", after := #[{ on := 2, ground := Ground.data }, { on := 5, ground := Ground.data }], guard := none }) (v := ?v178) rfl rfl (by kernel_rfl) (by kernel_rfl) (by kernel_rfl) (fun _ _ _ h => h) (Or.inl ⟨by rfl, ?hy178⟩) (by assumption) ?rest178
    case hy178 =>
      intro w hSw
      go_simp
      first | done | with_reducible rfl
    try simp only [Act.put, List.setIfInBounds_toArray, List.set_cons_zero, List.set_cons_succ]
    refine tkH (i := 7) (d := some 42) (oi := { dst := some 42, op := Op.move (Operand.tmp 41), type := 4, pos := "law.go:81", after := #[{ on := 6, ground := Ground.data }, { on := 2, ground := Ground.chain }], guard := none }) (v := ?v179) rfl rfl (by kernel_rfl) (by kernel_rfl) (by kernel_rfl) (fun _ _ _ h => h) (Or.inl ⟨by rfl, ?hy179⟩) (by assumption) ?rest179
    case hy179 =>
      intro w hSw
      go_simp
      first | done | with_reducible rfl
    try simp only [Act.put, List.setIfInBounds_toArray, List.set_cons_zero, List.set_cons_succ]
    refine tkH (i := 8) (d := some 43) (oi := { dst := some 43, op := Op.move (Operand.tmp 5), type := 29, pos := "law.go:81", after := #[{ on := 7, ground := Ground.guard }], guard := some (7, false) }) (v := ?v180) rfl rfl (by kernel_rfl) (by kernel_rfl) (by kernel_rfl) (fun _ _ _ h => h) (Or.inl ⟨by rfl, ?hy180⟩) (by assumption) ?rest180
    case hy180 =>
      intro w hSw
      go_simp
      first | done | with_reducible rfl
    try simp only [Act.put, List.setIfInBounds_toArray, List.set_cons_zero, List.set_cons_succ]
    refine tkH (i := 9) (d := some 44) (oi := { dst := some 44, op := Op.binOp BinOp.eql 29 (Operand.tmp 43) (Operand.const (Value.pointer none)) 29, type := 4, pos := "law.go:81", after := #[{ on := 8, ground := Ground.data }, { on := 7, ground := Ground.guard }], guard := some (7, false) }) (v := ?v181) rfl rfl (by kernel_rfl) (by kernel_rfl) (by kernel_rfl) (fun _ _ _ h => h) (Or.inl ⟨by rfl, ?hy181⟩) (by assumption) ?rest181
    case hy181 =>
      intro w hSw
      go_simp
      first | done | with_reducible rfl
    try simp only [Act.put, List.setIfInBounds_toArray, List.set_cons_zero, List.set_cons_succ]
    refine tkH (i := 10) (d := some 45) (oi := { dst := some 45, op := Op.move (Operand.tmp 6), type := 30, pos := "law.go:81", after := #[{ on := 7, ground := Ground.guard }], guard := some (7, false) }) (v := ?v182) rfl rfl (by kernel_rfl) (by kernel_rfl) (by kernel_rfl) (fun _ _ _ h => h) (Or.inl ⟨by rfl, ?hy182⟩) (by assumption) ?rest182
    case hy182 =>
      intro w hSw
      go_simp
      first | done | with_reducible rfl
    try simp only [Act.put, List.setIfInBounds_toArray, List.set_cons_zero, List.set_cons_succ]
    refine tkH (i := 11) (d := some 46) (oi := { dst := some 46, op := Op.binOp BinOp.neq 30 (Operand.tmp 45) (Operand.const (Value.int IntKind.i64 0)) 30, type := 4, pos := "law.go:81", after := #[{ on := 10, ground := Ground.data }, { on := 7, ground := Ground.guard }], guard := some (7, false) }) (v := ?v183) rfl rfl (by kernel_rfl) (by kernel_rfl) (by kernel_rfl) (fun _ _ _ h => h) (Or.inl ⟨by rfl, ?hy183⟩) (by assumption) ?rest183
    case hy183 =>
      intro w hSw
      go_simp
      first | done | with_reducible rfl
    try simp only [Act.put, List.setIfInBounds_toArray, List.set_cons_zero, List.set_cons_succ]
    refine tkH (i := 12) (d := some 47) (oi := { dst := some 47, op := Op.binOp BinOp.neq 4 (Operand.tmp 44) (Operand.tmp 46) 4, type := 4, pos := "law.go:81", after := #[{ on := 9, ground := Ground.data }, { on := 11, ground := Ground.data }, { on := 7, ground := Ground.guard }], guard := some (7, false) }) (v := ?v184) rfl rfl (by kernel_rfl) (by kernel_rfl) (by kernel_rfl) (fun _ _ _ h => h) (Or.inl ⟨by rfl, ?hy184⟩) (by assumption) ?rest184
    case hy184 =>
      intro w hSw
      go_simp
      first | done | with_reducible rfl
    try simp only [Act.put, List.setIfInBounds_toArray, List.set_cons_zero, List.set_cons_succ]
    refine tkH (i := 13) (d := some 48) (oi := { dst := some 48, op := Op.pick (Operand.tmp 42) (Operand.const (Value.bool true)) (Operand.tmp 47), type := 4, pos := "law.go:81", after := #[{ on := 7, ground := Ground.data }, { on := 12, ground := Ground.data }], guard := none }) (v := ?v185) rfl rfl (by kernel_rfl) (by kernel_rfl) (by kernel_rfl) (fun _ _ _ h => h) (Or.inl ⟨by rfl, ?hy185⟩) (by assumption) ?rest185
    case hy185 =>
      intro w hSw
      go_simp
      first | done | with_reducible rfl
    try simp only [Act.put, List.setIfInBounds_toArray, List.set_cons_zero, List.set_cons_succ]
    refine tkH (i := 14) (d := some 49) (oi := { dst := some 49, op := Op.move (Operand.tmp 48), type := 4, pos := "law.go:81", after := #[{ on := 13, ground := Ground.data }, { on := 7, ground := Ground.chain }], guard := none }) (v := ?v186) rfl rfl (by kernel_rfl) (by kernel_rfl) (by kernel_rfl) (fun _ _ _ h => h) (Or.inl ⟨by rfl, ?hy186⟩) (by assumption) ?rest186
    case hy186 =>
      intro w hSw
      go_simp
      first | done | with_reducible rfl
    try simp only [Act.put, List.setIfInBounds_toArray, List.set_cons_zero, List.set_cons_succ]
    refine tkH (i := 15) (d := some 50) (oi := { dst := some 50, op := Op.move (Operand.tmp 5), type := 29, pos := "law.go:81", after := #[{ on := 14, ground := Ground.guard }], guard := some (14, false) }) (v := ?v187) rfl rfl (by kernel_rfl) (by kernel_rfl) (by kernel_rfl) (fun _ _ _ h => h) (Or.inl ⟨by rfl, ?hy187⟩) (by assumption) ?rest187
    case hy187 =>
      intro w hSw
      go_simp
      first | done | with_reducible rfl
    try simp only [Act.put, List.setIfInBounds_toArray, List.set_cons_zero, List.set_cons_succ]
    refine tkH (i := 16) (d := some 51) (oi := { dst := some 51, op := Op.binOp BinOp.neq 29 (Operand.tmp 50) (Operand.const (Value.pointer none)) 29, type := 4, pos := "law.go:81", after := #[{ on := 15, ground := Ground.data }, { on := 14, ground := Ground.guard }], guard := some (14, false) }) (v := ?v188) rfl rfl (by kernel_rfl) (by kernel_rfl) (by kernel_rfl) (fun _ _ _ h => h) (Or.inl ⟨by rfl, ?hy188⟩) (by assumption) ?rest188
    case hy188 =>
      intro w hSw
      go_simp
      first | done | with_reducible rfl
    try simp only [Act.put, List.setIfInBounds_toArray, List.set_cons_zero, List.set_cons_succ]
    refine tkH (i := 17) (d := some 52) (oi := { dst := some 52, op := Op.move (Operand.tmp 51), type := 4, pos := "law.go:81", after := #[{ on := 16, ground := Ground.data }, { on := 14, ground := Ground.chain }, { on := 14, ground := Ground.guard }], guard := some (14, false) }) (v := ?v189) rfl rfl (by kernel_rfl) (by kernel_rfl) (by kernel_rfl) (fun _ _ _ h => h) (Or.inl ⟨by rfl, ?hy189⟩) (by assumption) ?rest189
    case hy189 =>
      intro w hSw
      go_simp
      first | done | with_reducible rfl
    try simp only [Act.put, List.setIfInBounds_toArray, List.set_cons_zero, List.set_cons_succ]
    refine tkH (i := 18) (d := some 53) (oi := { dst := some 53, op := Op.move (Operand.tmp 7), type := 33, pos := "law.go:81", after := #[{ on := 17, ground := Ground.guard }], guard := some (17, true) }) (v := ?v190) rfl rfl (by kernel_rfl) (by kernel_rfl) (by kernel_rfl) (fun _ _ _ h => h) (Or.inl ⟨by rfl, ?hy190⟩) (by assumption) ?rest190
    case hy190 =>
      intro w hSw
      go_simp
      first | done | with_reducible rfl
    try simp only [Act.put, List.setIfInBounds_toArray, List.set_cons_zero, List.set_cons_succ]
    refine tkH (i := 19) (d := some 54) (oi := { dst := some 54, op := Op.binOp BinOp.neq 33 (Operand.tmp 53) (Operand.const (Value.pointer none)) 33, type := 4, pos := "law.go:81", after := #[{ on := 18, ground := Ground.data }, { on := 17, ground := Ground.guard }], guard := some (17, true) }) (v := ?v191) rfl rfl (by kernel_rfl) (by kernel_rfl) (by kernel_rfl) (fun _ _ _ h => h) (Or.inl ⟨by rfl, ?hy191⟩) (by assumption) ?rest191
    case hy191 =>
      intro w hSw
      go_simp
      first | done | with_reducible rfl
    try simp only [Act.put, List.setIfInBounds_toArray, List.set_cons_zero, List.set_cons_succ]
    refine tkH (i := 20) (d := some 55) (oi := { dst := some 55, op := Op.pick (Operand.tmp 52) (Operand.tmp 54) (Operand.const (Value.bool false)), type := 4, pos := "law.go:81", after := #[{ on := 17, ground := Ground.data }, { on := 19, ground := Ground.data }, { on := 14, ground := Ground.guard }], guard := some (14, false) }) (v := ?v192) rfl rfl (by kernel_rfl) (by kernel_rfl) (by kernel_rfl) (fun _ _ _ h => h) (Or.inl ⟨by rfl, ?hy192⟩) (by assumption) ?rest192
    case hy192 =>
      intro w hSw
      go_simp
      first | done | with_reducible rfl
    try simp only [Act.put, List.setIfInBounds_toArray, List.set_cons_zero, List.set_cons_succ]
    refine tkH (i := 21) (d := some 56) (oi := { dst := some 56, op := Op.move (Operand.tmp 55), type := 4, pos := "law.go:81", after := #[{ on := 20, ground := Ground.data }, { on := 17, ground := Ground.chain }, { on := 14, ground := Ground.guard }], guard := some (14, false) }) (v := ?v193) rfl rfl (by kernel_rfl) (by kernel_rfl) (by kernel_rfl) (fun _ _ _ h => h) (Or.inl ⟨by rfl, ?hy193⟩) (by assumption) ?rest193
    case hy193 =>
      intro w hSw
      go_simp
      first | done | with_reducible rfl
    try simp only [Act.put, List.setIfInBounds_toArray, List.set_cons_zero, List.set_cons_succ]
    refine tkH (i := 22) (d := some 57) (oi := { dst := some 57, op := Op.move (Operand.tmp 5), type := 29, pos := "law.go:81", after := #[{ on := 21, ground := Ground.guard }], guard := some (21, true) }) (v := ?v194) rfl rfl (by kernel_rfl) (by kernel_rfl) (by kernel_rfl) (fun _ _ _ h => h) (Or.inl ⟨by rfl, ?hy194⟩) (by assumption) ?rest194
    case hy194 =>
      intro w hSw
      go_simp
      first | done | with_reducible rfl
    try simp only [Act.put, List.setIfInBounds_toArray, List.set_cons_zero, List.set_cons_succ]
    refine tkH (i := 24) (d := some 59) (oi := { dst := some 59, op := Op.move (Operand.tmp 7), type := 33, pos := "law.go:81", after := #[{ on := 21, ground := Ground.guard }], guard := some (21, true) }) (v := ?v195) rfl rfl (by kernel_rfl) (by kernel_rfl) (by kernel_rfl) (fun _ _ _ h => h) (Or.inl ⟨by rfl, ?hy195⟩) (by assumption) ?rest195
    case hy195 =>
      intro w hSw
      go_simp
      first | done | with_reducible rfl
    try simp only [Act.put, List.setIfInBounds_toArray, List.set_cons_zero, List.set_cons_succ]
    refine tkH (i := 25) (d := some 60) (oi := { dst := some 60, op := Op.nilCheck (Operand.tmp 59), type := 0, pos := "law.go:81", after := #[{ on := 24, ground := Ground.data }, { on := 21, ground := Ground.guard }], guard := some (21, true) }) (v := ?v196) rfl rfl (by kernel_rfl) (by kernel_rfl) (by kernel_rfl) (fun _ _ _ h => h) (Or.inl ⟨by rfl, ?hy196⟩) (by assumption) ?rest196
    case hy196 =>
      intro w hSw
      go_simp
      first | done | with_reducible rfl
    try simp only [Act.put, List.setIfInBounds_toArray, List.set_cons_zero, List.set_cons_succ]
    refine tkH (i := 26) (d := some 61) (oi := { dst := some 61, op := Op.fieldAddr 40 (Operand.tmp 60) 3, type := 0, pos := "law.go:81", after := #[{ on := 25, ground := Ground.data }, { on := 21, ground := Ground.guard }], guard := some (21, true) }) (v := ?v197) rfl rfl (by kernel_rfl) (by kernel_rfl) (by kernel_rfl) (fun _ _ _ h => h) (Or.inl ⟨by rfl, ?hy197⟩) (by assumption) ?rest197
    case hy197 =>
      intro w hSw
      go_simp
      first | done | with_reducible rfl
    try simp only [Act.put, List.setIfInBounds_toArray, List.set_cons_zero, List.set_cons_succ]
    refine tkH (i := 27) (d := some 62) (oi := { dst := some 62, op := Op.load 3 (Operand.tmp 61), type := 3, pos := "law.go:81", after := #[{ on := 26, ground := Ground.data }, { on := 21, ground := Ground.guard }], guard := some (21, true) }) (v := ?v198) rfl rfl (by kernel_rfl) (by kernel_rfl) (by kernel_rfl) (fun _ _ _ h => h) (Or.inl ⟨by rfl, ?hy198⟩) (by assumption) ?rest198
    case hy198 =>
      intro w hSw
      go_simp
      first | done | with_reducible rfl
    try simp only [Act.put, List.setIfInBounds_toArray, List.set_cons_zero, List.set_cons_succ]
    refine wpAnyH_ready (rs := [23]) (by kernel_rfl) (by simp) ?_
    refine AllReadyH.cons (o := { dst := some 58, op := Op.call { callee := Callee.value (Operand.func 9), args := #[Operand.tmp 57], argTypes := #[29] }, type := 3, pos := "law.go:81", after := #[{ on := 22, ground := Ground.data }, { on := 21, ground := Ground.chain }, { on := 21, ground := Ground.guard }], guard := some (21, true) }) rfl (fun K hK => ?_) AllReadyH.nil
    go_simp
    refine (root_c _ p g ml mt P HPD5.out.pa).mono ?_
    rintro e w6 ⟨rfl, hw6⟩
    subst hw6
    go_wp2_with fail
    refine hK.out _ _ (⟨y3, y4, y5⟩) (fun hHeld => ?_)
    clear hK K
    try simp only [Act.put, List.setIfInBounds_toArray, List.set_cons_zero, List.set_cons_succ]
    refine tkH (i := 28) (d := some 63) (oi := { dst := some 63, op := Op.binOp BinOp.neq 3 (Operand.tmp 58) (Operand.tmp 62) 3, type := 4, pos := "law.go:81", after := #[{ on := 23, ground := Ground.data }, { on := 27, ground := Ground.data }, { on := 21, ground := Ground.guard }], guard := some (21, true) }) (v := ?v200) rfl rfl (by kernel_rfl) (by kernel_rfl) (by kernel_rfl) (fun _ _ _ h => h) (Or.inl ⟨by rfl, ?hy200⟩) (by assumption) ?rest200
    case hy200 =>
      intro w hSw
      go_simp
      first | done | with_reducible rfl
    try simp only [Act.put, List.setIfInBounds_toArray, List.set_cons_zero, List.set_cons_succ]
    refine tkH (i := 29) (d := some 64) (oi := { dst := some 64, op := Op.move (Operand.tmp 63), type := 4, pos := "law.go:81", after := #[{ on := 28, ground := Ground.data }, { on := 23, ground := Ground.chain }, { on := 21, ground := Ground.guard }], guard := some (21, true) }) (v := ?v201) rfl rfl (by kernel_rfl) (by kernel_rfl) (by kernel_rfl) (fun _ _ _ h => h) (Or.inl ⟨by rfl, ?hy201⟩) (by assumption) ?rest201
    case hy201 =>
      intro w hSw
      go_simp
      first | done | with_reducible rfl
    try simp only [Act.put, List.setIfInBounds_toArray, List.set_cons_zero, List.set_cons_succ]
    refine tkH (i := 30) (d := some 65) (oi := { dst := some 65, op := Op.move (Operand.tmp 5), type := 29, pos := "law.go:81", after := #[{ on := 29, ground := Ground.guard }], guard := some (29, false) }) (v := ?v202) rfl rfl (by kernel_rfl) (by kernel_rfl) (by kernel_rfl) (fun _ _ _ h => h) (Or.inl ⟨by rfl, ?hy202⟩) (by assumption) ?rest202
    case hy202 =>
      intro w hSw
      go_simp
      first | done | with_reducible rfl
    try simp only [Act.put, List.setIfInBounds_toArray, List.set_cons_zero, List.set_cons_succ]
    refine tkH (i := 32) (d := some 67) (oi := { dst := some 67, op := Op.move (Operand.tmp 7), type := 33, pos := "law.go:81", after := #[{ on := 29, ground := Ground.guard }], guard := some (29, false) }) (v := ?v203) rfl rfl (by kernel_rfl) (by kernel_rfl) (by kernel_rfl) (fun _ _ _ h => h) (Or.inl ⟨by rfl, ?hy203⟩) (by assumption) ?rest203
    case hy203 =>
      intro w hSw
      go_simp
      first | done | with_reducible rfl
    try simp only [Act.put, List.setIfInBounds_toArray, List.set_cons_zero, List.set_cons_succ]
    refine tkH (i := 33) (d := some 68) (oi := { dst := some 68, op := Op.nilCheck (Operand.tmp 67), type := 0, pos := "law.go:81", after := #[{ on := 32, ground := Ground.data }, { on := 29, ground := Ground.guard }], guard := some (29, false) }) (v := ?v204) rfl rfl (by kernel_rfl) (by kernel_rfl) (by kernel_rfl) (fun _ _ _ h => h) (Or.inl ⟨by rfl, ?hy204⟩) (by assumption) ?rest204
    case hy204 =>
      intro w hSw
      go_simp
      first | done | with_reducible rfl
    try simp only [Act.put, List.setIfInBounds_toArray, List.set_cons_zero, List.set_cons_succ]
    refine tkH (i := 34) (d := some 69) (oi := { dst := some 69, op := Op.fieldAddr 40 (Operand.tmp 68) 4, type := 0, pos := "law.go:81", after := #[{ on := 33, ground := Ground.data }, { on := 29, ground := Ground.guard }], guard := some (29, false) }) (v := ?v205) rfl rfl (by kernel_rfl) (by kernel_rfl) (by kernel_rfl) (fun _ _ _ h => h) (Or.inl ⟨by rfl, ?hy205⟩) (by assumption) ?rest205
    case hy205 =>
      intro w hSw
      go_simp
      first | done | with_reducible rfl
    try simp only [Act.put, List.setIfInBounds_toArray, List.set_cons_zero, List.set_cons_succ]
    refine tkH (i := 35) (d := some 70) (oi := { dst := some 70, op := Op.load 3 (Operand.tmp 69), type := 3, pos := "law.go:81", after := #[{ on := 34, ground := Ground.data }, { on := 29, ground := Ground.guard }], guard := some (29, false) }) (v := ?v206) rfl rfl (by kernel_rfl) (by kernel_rfl) (by kernel_rfl) (fun _ _ _ h => h) (Or.inl ⟨by rfl, ?hy206⟩) (by assumption) ?rest206
    case hy206 =>
      intro w hSw
      go_simp
      first | done | with_reducible rfl
    try simp only [Act.put, List.setIfInBounds_toArray, List.set_cons_zero, List.set_cons_succ]
    refine wpAnyH_ready (rs := [31]) (by kernel_rfl) (by simp) ?_
    refine AllReadyH.cons (o := { dst := some 66, op := Op.call { callee := Callee.value (Operand.func 10), args := #[Operand.tmp 65], argTypes := #[29] }, type := 3, pos := "law.go:81", after := #[{ on := 30, ground := Ground.data }, { on := 29, ground := Ground.chain }, { on := 29, ground := Ground.guard }], guard := some (29, false) }) rfl (fun K hK => ?_) AllReadyH.nil
    go_simp
    refine (from_c _ p g ml mt P HPD5.out.pa).mono ?_
    rintro e w6 ⟨rfl, hw6⟩
    subst hw6
    go_wp2_with fail
    refine hK.out _ _ (⟨y3, y4, y5⟩) (fun hHeld => ?_)
    clear hK K
    try simp only [Act.put, List.setIfInBounds_toArray, List.set_cons_zero, List.set_cons_succ]
    refine tkH (i := 36) (d := some 71) (oi := { dst := some 71, op := Op.binOp BinOp.neq 3 (Operand.tmp 66) (Operand.tmp 70) 3, type := 4, pos := "law.go:81", after := #[{ on := 31, ground := Ground.data }, { on := 35, ground := Ground.data }, { on := 29, ground := Ground.guard }], guard := some (29, false) }) (v := ?v208) rfl rfl (by kernel_rfl) (by kernel_rfl) (by kernel_rfl) (fun _ _ _ h => h) (Or.inl ⟨by rfl, ?hy208⟩) (by assumption) ?rest208
    case hy208 =>
      intro w hSw
      go_simp
      first | done | with_reducible rfl
    try simp only [Act.put, List.setIfInBounds_toArray, List.set_cons_zero, List.set_cons_succ]
    refine tkH (i := 37) (d := some 72) (oi := { dst := some 72, op := Op.pick (Operand.tmp 64) (Operand.const (Value.bool true)) (Operand.tmp 71), type := 4, pos := "law.go:81", after := #[{ on := 29, ground := Ground.data }, { on := 36, ground := Ground.data }, { on := 21, ground := Ground.guard }], guard := some (21, true) }) (v := ?v209) rfl rfl (by kernel_rfl) (by kernel_rfl) (by kernel_rfl) (fun _ _ _ h => h) (Or.inl ⟨by rfl, ?hy209⟩) (by assumption) ?rest209
    case hy209 =>
      intro w hSw
      go_simp
      first | done | with_reducible rfl
    try simp only [Act.put, List.setIfInBounds_toArray, List.set_cons_zero, List.set_cons_succ]
    refine tkH (i := 38) (d := some 73) (oi := { dst := some 73, op := Op.move (Operand.tmp 72), type := 4, pos := "law.go:81", after := #[{ on := 37, ground := Ground.data }, { on := 31, ground := Ground.chain }, { on := 21, ground := Ground.guard }], guard := some (21, true) }) (v := ?v210) rfl rfl (by kernel_rfl) (by kernel_rfl) (by kernel_rfl) (fun _ _ _ h => h) (Or.inl ⟨by rfl, ?hy210⟩) (by assumption) ?rest210
    case hy210 =>
      intro w hSw
      go_simp
      first | done | with_reducible rfl
    try simp only [Act.put, List.setIfInBounds_toArray, List.set_cons_zero, List.set_cons_succ]
    refine tkH (i := 39) (d := some 74) (oi := { dst := some 74, op := Op.move (Operand.tmp 5), type := 29, pos := "law.go:81", after := #[{ on := 38, ground := Ground.guard }], guard := some (38, false) }) (v := ?v211) rfl rfl (by kernel_rfl) (by kernel_rfl) (by kernel_rfl) (fun _ _ _ h => h) (Or.inl ⟨by rfl, ?hy211⟩) (by assumption) ?rest211
    case hy211 =>
      intro w hSw
      go_simp
      first | done | with_reducible rfl
    try simp only [Act.put, List.setIfInBounds_toArray, List.set_cons_zero, List.set_cons_succ]
    refine tkH (i := 41) (d := some 76) (oi := { dst := some 76, op := Op.move (Operand.tmp 7), type := 33, pos := "law.go:81", after := #[{ on := 38, ground := Ground.guard }], guard := some (38, false) }) (v := ?v212) rfl rfl (by kernel_rfl) (by kernel_rfl) (by kernel_rfl) (fun _ _ _ h => h) (Or.inl ⟨by rfl, ?hy212⟩) (by assumption) ?rest212
    case hy212 =>
      intro w hSw
      go_simp
      first | done | with_reducible rfl
    try simp only [Act.put, List.setIfInBounds_toArray, List.set_cons_zero, List.set_cons_succ]
    refine tkH (i := 42) (d := some 77) (oi := { dst := some 77, op := Op.nilCheck (Operand.tmp 76), type := 0, pos := "law.go:81", after := #[{ on := 41, ground := Ground.data }, { on := 38, ground := Ground.guard }], guard := some (38, false) }) (v := ?v213) rfl rfl (by kernel_rfl) (by kernel_rfl) (by kernel_rfl) (fun _ _ _ h => h) (Or.inl ⟨by rfl, ?hy213⟩) (by assumption) ?rest213
    case hy213 =>
      intro w hSw
      go_simp
      first | done | with_reducible rfl
    try simp only [Act.put, List.setIfInBounds_toArray, List.set_cons_zero, List.set_cons_succ]
    refine tkH (i := 43) (d := some 78) (oi := { dst := some 78, op := Op.fieldAddr 40 (Operand.tmp 77) 5, type := 0, pos := "law.go:81", after := #[{ on := 42, ground := Ground.data }, { on := 38, ground := Ground.guard }], guard := some (38, false) }) (v := ?v214) rfl rfl (by kernel_rfl) (by kernel_rfl) (by kernel_rfl) (fun _ _ _ h => h) (Or.inl ⟨by rfl, ?hy214⟩) (by assumption) ?rest214
    case hy214 =>
      intro w hSw
      go_simp
      first | done | with_reducible rfl
    try simp only [Act.put, List.setIfInBounds_toArray, List.set_cons_zero, List.set_cons_succ]
    refine tkH (i := 44) (d := some 79) (oi := { dst := some 79, op := Op.load 3 (Operand.tmp 78), type := 3, pos := "law.go:81", after := #[{ on := 43, ground := Ground.data }, { on := 38, ground := Ground.guard }], guard := some (38, false) }) (v := ?v215) rfl rfl (by kernel_rfl) (by kernel_rfl) (by kernel_rfl) (fun _ _ _ h => h) (Or.inl ⟨by rfl, ?hy215⟩) (by assumption) ?rest215
    case hy215 =>
      intro w hSw
      go_simp
      first | done | with_reducible rfl
    try simp only [Act.put, List.setIfInBounds_toArray, List.set_cons_zero, List.set_cons_succ]
    refine wpAnyH_ready (rs := [40]) (by kernel_rfl) (by simp) ?_
    refine AllReadyH.cons (o := { dst := some 75, op := Op.call { callee := Callee.value (Operand.func 11), args := #[Operand.tmp 74], argTypes := #[29] }, type := 3, pos := "law.go:81", after := #[{ on := 39, ground := Ground.data }, { on := 38, ground := Ground.chain }, { on := 38, ground := Ground.guard }], guard := some (38, false) }) rfl (fun K hK => ?_) AllReadyH.nil
    go_simp
    refine (gen_c _ p g ml mt P HPD5.out.pa).mono ?_
    rintro e w6 ⟨rfl, hw6⟩
    subst hw6
    go_wp2_with fail
    refine hK.out _ _ (⟨y3, y4, y5⟩) (fun hHeld => ?_)
    clear hK K
    try simp only [Act.put, List.setIfInBounds_toArray, List.set_cons_zero, List.set_cons_succ]
    refine tkH (i := 45) (d := some 80) (oi := { dst := some 80, op := Op.binOp BinOp.neq 3 (Operand.tmp 75) (Operand.tmp 79) 3, type := 4, pos := "law.go:81", after := #[{ on := 40, ground := Ground.data }, { on := 44, ground := Ground.data }, { on := 38, ground := Ground.guard }], guard := some (38, false) }) (v := ?v217) rfl rfl (by kernel_rfl) (by kernel_rfl) (by kernel_rfl) (fun _ _ _ h => h) (Or.inl ⟨by rfl, ?hy217⟩) (by assumption) ?rest217
    case hy217 =>
      intro w hSw
      go_simp
      first | done | with_reducible rfl
    try simp only [Act.put, List.setIfInBounds_toArray, List.set_cons_zero, List.set_cons_succ]
    refine tkH (i := 46) (d := some 81) (oi := { dst := some 81, op := Op.pick (Operand.tmp 73) (Operand.const (Value.bool true)) (Operand.tmp 80), type := 4, pos := "law.go:81", after := #[{ on := 38, ground := Ground.data }, { on := 45, ground := Ground.data }, { on := 21, ground := Ground.guard }], guard := some (21, true) }) (v := ?v218) rfl rfl (by kernel_rfl) (by kernel_rfl) (by kernel_rfl) (fun _ _ _ h => h) (Or.inl ⟨by rfl, ?hy218⟩) (by assumption) ?rest218
    case hy218 =>
      intro w hSw
      go_simp
      first | done | with_reducible rfl
    try simp only [Act.put, List.setIfInBounds_toArray, List.set_cons_zero, List.set_cons_succ]
    refine tkH (i := 47) (d := some 82) (oi := { dst := some 82, op := Op.pick (Operand.tmp 56) (Operand.tmp 81) (Operand.const (Value.bool false)), type := 4, pos := "law.go:81", after := #[{ on := 21, ground := Ground.data }, { on := 46, ground := Ground.data }, { on := 14, ground := Ground.guard }], guard := some (14, false) }) (v := ?v219) rfl rfl (by kernel_rfl) (by kernel_rfl) (by kernel_rfl) (fun _ _ _ h => h) (Or.inl ⟨by rfl, ?hy219⟩) (by assumption) ?rest219
    case hy219 =>
      intro w hSw
      go_simp
      first | done | with_reducible rfl
    try simp only [Act.put, List.setIfInBounds_toArray, List.set_cons_zero, List.set_cons_succ]
    refine tkH (i := 48) (d := some 83) (oi := { dst := some 83, op := Op.pick (Operand.tmp 49) (Operand.const (Value.bool true)) (Operand.tmp 82), type := 4, pos := "law.go:81", after := #[{ on := 14, ground := Ground.data }, { on := 47, ground := Ground.data }], guard := none }) (v := ?v220) rfl rfl (by kernel_rfl) (by kernel_rfl) (by kernel_rfl) (fun _ _ _ h => h) (Or.inl ⟨by rfl, ?hy220⟩) (by assumption) ?rest220
    case hy220 =>
      intro w hSw
      go_simp
      first | done | with_reducible rfl
    try simp only [Act.put, List.setIfInBounds_toArray, List.set_cons_zero, List.set_cons_succ]
    refine wpAnyH_done (by kernel_rfl) ?_ _
    have HX3 := hid (HF4.out.drew.trans HF5.out (fun _ _ f => f))
    have hbx := HX3.out.at HB3.out (fun f => f)
    have m1 : w6.cell? ⟨x1, 1, none⟩ = some (.int .i64 f) := cell_at hbx 1
    have m2 : w6.cell? ⟨x1, 2, none⟩ = some (.int .i64 c) := cell_at hbx 2
    have m3 : w6.cell? ⟨x1, 3, none⟩ = some (.int .i64 n) := cell_at hbx 3
    have HBX := hid hbx
    have HAX := hid ((HDJ.out.at_.stay HF3.out).stay HX3.out)
    have HRX := hid (RC.stay (RC.stay HDJ.out.ra HF3.out) HX3.out)
    have HPF := hid (pformat_c _ g bm S HAX.out HDJ.out.ok f c n f1 f2)
    unfold PFmtC at HPF
    clear hbx
    go_wp2_with fail
    refine HPF.out.mono ?_
    intro e8 w8 hp8
    have HP8 := hid hp8
    have hlo := HDJ.out.low
    have hx0 : x1 < w1.heap.size := by rw [HW1.out, HX1.out]; simp
    have HXN := hid (⟨by omega, by omega, by omega, by omega, by omega⟩ : x1 ≠ g ∧ x1 ≠ bm ∧ x1 ≠ m ∧ x1 ≠ b1 ∧ x1 ≠ b2)
    have HR8 := hid (RC.beside HRX.out HAX.out hp8.1)
    have hb8 := hp8.1.at HBX.out (by have := HXN.out; omega)
    have j1 : w8.cell? ⟨x1, 1, none⟩ = some (.int .i64 f) := cell_at hb8 1
    have j2 : w8.cell? ⟨x1, 2, none⟩ = some (.int .i64 c) := cell_at hb8 2
    have j3 : w8.cell? ⟨x1, 3, none⟩ = some (.int .i64 n) := cell_at hb8 3
    have HB8 := hid hb8
    have HRF := hid (rpformat_c w8 m b1 b2 S HR8.out HDJ.out.rok f c n f1 f2)
    unfold RFmtC at HRF
    have HOK8 := hid (format_ok HDJ.out.ok f c n)
    clear hp8 hlo hx0 hb8 HPF m1 m2 m3
    rcases format_code (S := S) (f := f) (c := c) (n := n) with ⟨hfp, hfc⟩ | ⟨P2, hfp, hP2, hpc⟩
    · obtain ⟨h8, bm2, hA8, hbm2⟩ := HP8.out.2.2 hfp
      obtain ⟨C2, hC2⟩ : ∃ C, C = (formatP S f c n).2.2 := ⟨_, rfl⟩
      rw [← hC2] at h8 hfc
      subst h8
      have HA8 := hid hA8
      have HBM := hid hbm2
      have HFP := hid hfp
      have HC2 := hid hC2
      have tC : (C2 == 0) = false := by simpa using hfc
      have tD : (C2 != 0) = true := by simpa using hfc
      clear hA8 hbm2 hfp hC2 hfc
      go_wp2_with fail
      refine HRF.out.mono ?_
      intro e9 w9 hp9
      obtain ⟨h9, ht9⟩ := hp9.2.2 HFP.out
      rw [← HC2.out] at h9
      subst h9
      have HT9 := hid ht9
      clear hp9 ht9 HRF j1 j2 j3
      go_wp2_with fail
      obtain ⟨⟨u1, u2, hra9, hu1, hu2⟩, hf9⟩ := HT9.out
      have HR9 := hid hra9
      have HA9 := hid (HA8.out.besideR HR8.out hf9)
      have h0 : Fr (fun _ => False) w9 w9.drew := (Fr.refl _ w9).drew
      have HFIN := hid (fun (W : World) (hf : Fr (fun _ => False) w9 W) => show Fr (fun _ => False) w W by
        have hlo := HDJ.out.low
        have hx1 : w.heap.size ≤ w1.heap.size := HF1.out.size
        exact ((((HF1.out.trans HDJ.out.fr (fun _ _ f => f)).trans (HF3.out.trans HX3.out (fun _ _ f => f)) (fun _ _ f => f)).trans HP8.out.1 (fun i hi e => by omega)).trans hf9 (fun i hi e => by omega)).trans hf (fun _ _ f => f))
      clear hra9 hu1 hu2
      refine wp_region_held_drew (S := fun _ => True) (by kernel_rfl) (trivial) (fun hHeld => ?_)
      refine tkH (i := 0) (d := some 106) (oi := { dst := some 106, op := Op.move (Operand.tmp 6), type := 30, pos := "law.go:86", after := #[], guard := none }) (v := ?v282) rfl rfl (by kernel_rfl) (by kernel_rfl) (by kernel_rfl) (fun _ _ _ h => h) (Or.inl ⟨by rfl, ?hy282⟩) (by assumption) ?rest282
      case hy282 =>
        intro w hSw
        go_simp
        first | done | with_reducible rfl
      try simp only [Act.put, List.setIfInBounds_toArray, List.set_cons_zero, List.set_cons_succ]
      refine tkH (i := 1) (d := some 107) (oi := { dst := some 107, op := Op.move (Operand.tmp 8), type := 30, pos := "law.go:86", after := #[], guard := none }) (v := ?v283) rfl rfl (by kernel_rfl) (by kernel_rfl) (by kernel_rfl) (fun _ _ _ h => h) (Or.inl ⟨by rfl, ?hy283⟩) (by assumption) ?rest283
      case hy283 =>
        intro w hSw
        go_simp
        first | done | with_reducible rfl
      try simp only [Act.put, List.setIfInBounds_toArray, List.set_cons_zero, List.set_cons_succ]
      refine tkH (i := 2) (d := some 108) (oi := { dst := some 108, op := Op.binOp BinOp.eql 30 (Operand.tmp 106) (Operand.tmp 107) 30, type := 4, pos := "law.go:86", after := #[{ on := 0, ground := Ground.data }, { on := 1, ground := Ground.data }], guard := none }) (v := ?v284) rfl rfl (by kernel_rfl) (by kernel_rfl) (by kernel_rfl) (fun _ _ _ h => h) (Or.inl ⟨by rfl, ?hy284⟩) (by assumption) ?rest284
      case hy284 =>
        intro w hSw
        go_simp
        first | done | with_reducible rfl
      try simp only [Act.put, List.setIfInBounds_toArray, List.set_cons_zero, List.set_cons_succ]
      refine tkH (i := 3) (d := some 109) (oi := { dst := some 109, op := Op.move (Operand.tmp 108), type := 4, pos := "law.go:86", after := #[{ on := 2, ground := Ground.data }], guard := none }) (v := ?v285) rfl rfl (by kernel_rfl) (by kernel_rfl) (by kernel_rfl) (fun _ _ _ h => h) (Or.inl ⟨by rfl, ?hy285⟩) (by assumption) ?rest285
      case hy285 =>
        intro w hSw
        go_simp
        first | done | with_reducible rfl
      try simp only [Act.put, List.setIfInBounds_toArray, List.set_cons_zero, List.set_cons_succ]
      refine tkH (i := 4) (d := some 110) (oi := { dst := some 110, op := Op.move (Operand.tmp 5), type := 29, pos := "law.go:86", after := #[{ on := 3, ground := Ground.guard }], guard := some (3, true) }) (v := ?v286) rfl rfl (by kernel_rfl) (by kernel_rfl) (by kernel_rfl) (fun _ _ _ h => h) (Or.inl ⟨by rfl, ?hy286⟩) (by assumption) ?rest286
      case hy286 =>
        intro w hSw
        go_simp
        first | done | with_reducible rfl
      try simp only [Act.put, List.setIfInBounds_toArray, List.set_cons_zero, List.set_cons_succ]
      refine tkH (i := 5) (d := some 111) (oi := { dst := some 111, op := Op.binOp BinOp.eql 29 (Operand.tmp 110) (Operand.const (Value.pointer none)) 29, type := 4, pos := "law.go:86", after := #[{ on := 4, ground := Ground.data }, { on := 3, ground := Ground.guard }], guard := some (3, true) }) (v := ?v287) rfl rfl (by kernel_rfl) (by kernel_rfl) (by kernel_rfl) (fun _ _ _ h => h) (Or.inl ⟨by rfl, ?hy287⟩) (by assumption) ?rest287
      case hy287 =>
        intro w hSw
        go_simp
        first | done | with_reducible rfl
      try simp only [Act.put, List.setIfInBounds_toArray, List.set_cons_zero, List.set_cons_succ]
      refine tkH (i := 6) (d := some 112) (oi := { dst := some 112, op := Op.move (Operand.tmp 6), type := 30, pos := "law.go:86", after := #[{ on := 3, ground := Ground.guard }], guard := some (3, true) }) (v := ?v288) rfl rfl (by kernel_rfl) (by kernel_rfl) (by kernel_rfl) (fun _ _ _ h => h) (Or.inl ⟨by rfl, ?hy288⟩) (by assumption) ?rest288
      case hy288 =>
        intro w hSw
        go_simp
        first | done | with_reducible rfl
      try simp only [Act.put, List.setIfInBounds_toArray, List.set_cons_zero, List.set_cons_succ]
      refine tkH (i := 7) (d := some 113) (oi := { dst := some 113, op := Op.binOp BinOp.neq 30 (Operand.tmp 112) (Operand.const (Value.int IntKind.i64 0)) 30, type := 4, pos := "law.go:86", after := #[{ on := 6, ground := Ground.data }, { on := 3, ground := Ground.guard }], guard := some (3, true) }) (v := ?v289) rfl rfl (by kernel_rfl) (by kernel_rfl) (by kernel_rfl) (fun _ _ _ h => h) (Or.inl ⟨by rfl, ?hy289⟩) (by assumption) ?rest289
      case hy289 =>
        intro w hSw
        go_simp
        first | done | with_reducible rfl
      try simp only [Act.put, List.setIfInBounds_toArray, List.set_cons_zero, List.set_cons_succ]
      refine tkH (i := 8) (d := some 114) (oi := { dst := some 114, op := Op.binOp BinOp.eql 4 (Operand.tmp 111) (Operand.tmp 113) 4, type := 4, pos := "law.go:86", after := #[{ on := 5, ground := Ground.data }, { on := 7, ground := Ground.data }, { on := 3, ground := Ground.guard }], guard := some (3, true) }) (v := ?v290) rfl rfl (by kernel_rfl) (by kernel_rfl) (by kernel_rfl) (fun _ _ _ h => h) (Or.inl ⟨by rfl, ?hy290⟩) (by assumption) ?rest290
      case hy290 =>
        intro w hSw
        go_simp
        first | done | with_reducible rfl
      try simp only [Act.put, List.setIfInBounds_toArray, List.set_cons_zero, List.set_cons_succ]
      refine tkH (i := 9) (d := some 115) (oi := { dst := some 115, op := Op.pick (Operand.tmp 109) (Operand.tmp 114) (Operand.const (Value.bool false)), type := 4, pos := "law.go:86", after := #[{ on := 3, ground := Ground.data }, { on := 8, ground := Ground.data }], guard := none }) (v := ?v291) rfl rfl (by kernel_rfl) (by kernel_rfl) (by kernel_rfl) (fun _ _ _ h => h) (Or.inl ⟨by rfl, ?hy291⟩) (by assumption) ?rest291
      case hy291 =>
        intro w hSw
        go_simp
        first | done | with_reducible rfl
      try simp only [Act.put, List.setIfInBounds_toArray, List.set_cons_zero, List.set_cons_succ]
      refine tkH (i := 10) (d := some 116) (oi := { dst := some 116, op := Op.move (Operand.tmp 115), type := 4, pos := "law.go:86", after := #[{ on := 9, ground := Ground.data }, { on := 3, ground := Ground.chain }], guard := none }) (v := ?v292) rfl rfl (by kernel_rfl) (by kernel_rfl) (by kernel_rfl) (fun _ _ _ h => h) (Or.inl ⟨by rfl, ?hy292⟩) (by assumption) ?rest292
      case hy292 =>
        intro w hSw
        go_simp
        first | done | with_reducible rfl
      try simp only [Act.put, List.setIfInBounds_toArray, List.set_cons_zero, List.set_cons_succ]
      refine tkH (i := 11) (d := some 117) (oi := { dst := some 117, op := Op.move (Operand.tmp 5), type := 29, pos := "law.go:86", after := #[{ on := 10, ground := Ground.guard }], guard := some (10, true) }) (v := ?v293) rfl rfl (by kernel_rfl) (by kernel_rfl) (by kernel_rfl) (fun _ _ _ h => h) (Or.inl ⟨by rfl, ?hy293⟩) (by assumption) ?rest293
      case hy293 =>
        intro w hSw
        go_simp
        first | done | with_reducible rfl
      try simp only [Act.put, List.setIfInBounds_toArray, List.set_cons_zero, List.set_cons_succ]
      refine tkH (i := 12) (d := some 118) (oi := { dst := some 118, op := Op.binOp BinOp.eql 29 (Operand.tmp 117) (Operand.const (Value.pointer none)) 29, type := 4, pos := "law.go:86", after := #[{ on := 11, ground := Ground.data }, { on := 10, ground := Ground.guard }], guard := some (10, true) }) (v := ?v294) rfl rfl (by kernel_rfl) (by kernel_rfl) (by kernel_rfl) (fun _ _ _ h => h) (Or.inl ⟨by rfl, ?hy294⟩) (by assumption) ?rest294
      case hy294 =>
        intro w hSw
        go_simp
        first | done | with_reducible rfl
      try simp only [Act.put, List.setIfInBounds_toArray, List.set_cons_zero, List.set_cons_succ]
      refine tkH (i := 13) (d := some 119) (oi := { dst := some 119, op := Op.move (Operand.tmp 118), type := 4, pos := "law.go:86", after := #[{ on := 12, ground := Ground.data }, { on := 10, ground := Ground.chain }, { on := 10, ground := Ground.guard }], guard := some (10, true) }) (v := ?v295) rfl rfl (by kernel_rfl) (by kernel_rfl) (by kernel_rfl) (fun _ _ _ h => h) (Or.inl ⟨by rfl, ?hy295⟩) (by assumption) ?rest295
      case hy295 =>
        intro w hSw
        go_simp
        first | done | with_reducible rfl
      try simp only [Act.put, List.setIfInBounds_toArray, List.set_cons_zero, List.set_cons_succ]
      refine tkH (i := 14) (d := some 120) (oi := { dst := some 120, op := Op.move (Operand.tmp 7), type := 33, pos := "law.go:86", after := #[{ on := 13, ground := Ground.guard }], guard := some (13, false) }) (v := undef) rfl rfl (by kernel_rfl) (by kernel_rfl) (by kernel_rfl) (fun _ _ _ h => h) (Or.inr ⟨by rfl, rfl⟩) (by assumption) ?_
      try simp only [Act.put, List.setIfInBounds_toArray, List.set_cons_zero, List.set_cons_succ]
      refine tkH (i := 15) (d := some 121) (oi := { dst := some 121, op := Op.binOp BinOp.eql 33 (Operand.tmp 120) (Operand.const (Value.pointer none)) 33, type := 4, pos := "law.go:86", after := #[{ on := 14, ground := Ground.data }, { on := 13, ground := Ground.guard }], guard := some (13, false) }) (v := undef) rfl rfl (by kernel_rfl) (by kernel_rfl) (by kernel_rfl) (fun _ _ _ h => h) (Or.inr ⟨by rfl, rfl⟩) (by assumption) ?_
      try simp only [Act.put, List.setIfInBounds_toArray, List.set_cons_zero, List.set_cons_succ]
      refine tkH (i := 16) (d := some 122) (oi := { dst := some 122, op := Op.pick (Operand.tmp 119) (Operand.const (Value.bool true)) (Operand.tmp 121), type := 4, pos := "law.go:86", after := #[{ on := 13, ground := Ground.data }, { on := 15, ground := Ground.data }, { on := 10, ground := Ground.guard }], guard := some (10, true) }) (v := ?v298) rfl rfl (by kernel_rfl) (by kernel_rfl) (by kernel_rfl) (fun _ _ _ h => h) (Or.inl ⟨by rfl, ?hy298⟩) (by assumption) ?rest298
      case hy298 =>
        intro w hSw
        go_simp
        first | done | with_reducible rfl
      try simp only [Act.put, List.setIfInBounds_toArray, List.set_cons_zero, List.set_cons_succ]
      refine tkH (i := 17) (d := some 123) (oi := { dst := some 123, op := Op.move (Operand.tmp 122), type := 4, pos := "law.go:86", after := #[{ on := 16, ground := Ground.data }, { on := 13, ground := Ground.chain }, { on := 10, ground := Ground.guard }], guard := some (10, true) }) (v := ?v299) rfl rfl (by kernel_rfl) (by kernel_rfl) (by kernel_rfl) (fun _ _ _ h => h) (Or.inl ⟨by rfl, ?hy299⟩) (by assumption) ?rest299
      case hy299 =>
        intro w hSw
        go_simp
        first | done | with_reducible rfl
      try simp only [Act.put, List.setIfInBounds_toArray, List.set_cons_zero, List.set_cons_succ]
      refine tkH (i := 18) (d := some 124) (oi := { dst := some 124, op := Op.move (Operand.tmp 5), type := 29, pos := "law.go:86", after := #[{ on := 17, ground := Ground.guard }], guard := some (17, false) }) (v := undef) rfl rfl (by kernel_rfl) (by kernel_rfl) (by kernel_rfl) (fun _ _ _ h => h) (Or.inr ⟨by rfl, rfl⟩) (by assumption) ?_
      try simp only [Act.put, List.setIfInBounds_toArray, List.set_cons_zero, List.set_cons_succ]
      refine tkH (i := 19) (d := some 125) (oi := { dst := some 125, op := Op.call { callee := Callee.value (Operand.func 9), args := #[Operand.tmp 124], argTypes := #[29] }, type := 3, pos := "law.go:86", after := #[{ on := 18, ground := Ground.data }, { on := 17, ground := Ground.chain }, { on := 17, ground := Ground.guard }], guard := some (17, false) }) (v := undef) rfl rfl (by kernel_rfl) (by kernel_rfl) (by kernel_rfl) (fun _ _ _ h => h) (Or.inr ⟨by rfl, rfl⟩) (by assumption) ?_
      try simp only [Act.put, List.setIfInBounds_toArray, List.set_cons_zero, List.set_cons_succ]
      refine tkH (i := 20) (d := some 126) (oi := { dst := some 126, op := Op.binOp BinOp.eql 3 (Operand.tmp 125) (Operand.const (Value.int IntKind.i64 (-1))) 3, type := 4, pos := "law.go:86", after := #[{ on := 19, ground := Ground.data }, { on := 17, ground := Ground.guard }], guard := some (17, false) }) (v := undef) rfl rfl (by kernel_rfl) (by kernel_rfl) (by kernel_rfl) (fun _ _ _ h => h) (Or.inr ⟨by rfl, rfl⟩) (by assumption) ?_
      try simp only [Act.put, List.setIfInBounds_toArray, List.set_cons_zero, List.set_cons_succ]
      refine tkH (i := 21) (d := some 127) (oi := { dst := some 127, op := Op.move (Operand.tmp 126), type := 4, pos := "law.go:86", after := #[{ on := 20, ground := Ground.data }, { on := 19, ground := Ground.chain }, { on := 17, ground := Ground.guard }], guard := some (17, false) }) (v := undef) rfl rfl (by kernel_rfl) (by kernel_rfl) (by kernel_rfl) (fun _ _ _ h => h) (Or.inr ⟨by rfl, rfl⟩) (by assumption) ?_
      try simp only [Act.put, List.setIfInBounds_toArray, List.set_cons_zero, List.set_cons_succ]
      refine tkH (i := 22) (d := some 128) (oi := { dst := some 128, op := Op.move (Operand.tmp 5), type := 29, pos := "law.go:86", after := #[{ on := 21, ground := Ground.guard }], guard := some (21, true) }) (v := undef) rfl rfl (by kernel_rfl) (by kernel_rfl) (by kernel_rfl) (fun _ _ _ h => h) (Or.inr ⟨by rfl, rfl⟩) (by assumption) ?_
      try simp only [Act.put, List.setIfInBounds_toArray, List.set_cons_zero, List.set_cons_succ]
      refine tkH (i := 23) (d := some 129) (oi := { dst := some 129, op := Op.call { callee := Callee.value (Operand.func 10), args := #[Operand.tmp 128], argTypes := #[29] }, type := 3, pos := "law.go:86", after := #[{ on := 22, ground := Ground.data }, { on := 21, ground := Ground.chain }, { on := 21, ground := Ground.guard }], guard := some (21, true) }) (v := undef) rfl rfl (by kernel_rfl) (by kernel_rfl) (by kernel_rfl) (fun _ _ _ h => h) (Or.inr ⟨by rfl, rfl⟩) (by assumption) ?_
      try simp only [Act.put, List.setIfInBounds_toArray, List.set_cons_zero, List.set_cons_succ]
      refine tkH (i := 24) (d := some 130) (oi := { dst := some 130, op := Op.move (Operand.tmp 7), type := 33, pos := "law.go:86", after := #[{ on := 21, ground := Ground.guard }], guard := some (21, true) }) (v := undef) rfl rfl (by kernel_rfl) (by kernel_rfl) (by kernel_rfl) (fun _ _ _ h => h) (Or.inr ⟨by rfl, rfl⟩) (by assumption) ?_
      try simp only [Act.put, List.setIfInBounds_toArray, List.set_cons_zero, List.set_cons_succ]
      refine tkH (i := 25) (d := some 131) (oi := { dst := some 131, op := Op.nilCheck (Operand.tmp 130), type := 0, pos := "law.go:86", after := #[{ on := 24, ground := Ground.data }, { on := 21, ground := Ground.guard }], guard := some (21, true) }) (v := undef) rfl rfl (by kernel_rfl) (by kernel_rfl) (by kernel_rfl) (fun _ _ _ h => h) (Or.inr ⟨by rfl, rfl⟩) (by assumption) ?_
      try simp only [Act.put, List.setIfInBounds_toArray, List.set_cons_zero, List.set_cons_succ]
      refine tkH (i := 26) (d := some 132) (oi := { dst := some 132, op := Op.fieldAddr 40 (Operand.tmp 131) 4, type := 0, pos := "law.go:86", after := #[{ on := 25, ground := Ground.data }, { on := 21, ground := Ground.guard }], guard := some (21, true) }) (v := undef) rfl rfl (by kernel_rfl) (by kernel_rfl) (by kernel_rfl) (fun _ _ _ h => h) (Or.inr ⟨by rfl, rfl⟩) (by assumption) ?_
      try simp only [Act.put, List.setIfInBounds_toArray, List.set_cons_zero, List.set_cons_succ]
      refine tkH (i := 27) (d := some 133) (oi := { dst := some 133, op := Op.load 3 (Operand.tmp 132), type := 3, pos := "law.go:86", after := #[{ on := 26, ground := Ground.data }, { on := 21, ground := Ground.guard }], guard := some (21, true) }) (v := undef) rfl rfl (by kernel_rfl) (by kernel_rfl) (by kernel_rfl) (fun _ _ _ h => h) (Or.inr ⟨by rfl, rfl⟩) (by assumption) ?_
      try simp only [Act.put, List.setIfInBounds_toArray, List.set_cons_zero, List.set_cons_succ]
      refine tkH (i := 28) (d := some 134) (oi := { dst := some 134, op := Op.binOp BinOp.eql 3 (Operand.tmp 129) (Operand.tmp 133) 3, type := 4, pos := "law.go:86", after := #[{ on := 23, ground := Ground.data }, { on := 27, ground := Ground.data }, { on := 21, ground := Ground.guard }], guard := some (21, true) }) (v := undef) rfl rfl (by kernel_rfl) (by kernel_rfl) (by kernel_rfl) (fun _ _ _ h => h) (Or.inr ⟨by rfl, rfl⟩) (by assumption) ?_
      try simp only [Act.put, List.setIfInBounds_toArray, List.set_cons_zero, List.set_cons_succ]
      refine tkH (i := 29) (d := some 135) (oi := { dst := some 135, op := Op.pick (Operand.tmp 127) (Operand.tmp 134) (Operand.const (Value.bool false)), type := 4, pos := "law.go:86", after := #[{ on := 21, ground := Ground.data }, { on := 28, ground := Ground.data }, { on := 17, ground := Ground.guard }], guard := some (17, false) }) (v := undef) rfl rfl (by kernel_rfl) (by kernel_rfl) (by kernel_rfl) (fun _ _ _ h => h) (Or.inr ⟨by rfl, rfl⟩) (by assumption) ?_
      try simp only [Act.put, List.setIfInBounds_toArray, List.set_cons_zero, List.set_cons_succ]
      refine tkH (i := 30) (d := some 136) (oi := { dst := some 136, op := Op.move (Operand.tmp 135), type := 4, pos := "law.go:86", after := #[{ on := 29, ground := Ground.data }, { on := 23, ground := Ground.chain }, { on := 17, ground := Ground.guard }], guard := some (17, false) }) (v := undef) rfl rfl (by kernel_rfl) (by kernel_rfl) (by kernel_rfl) (fun _ _ _ h => h) (Or.inr ⟨by rfl, rfl⟩) (by assumption) ?_
      try simp only [Act.put, List.setIfInBounds_toArray, List.set_cons_zero, List.set_cons_succ]
      refine tkH (i := 31) (d := some 137) (oi := { dst := some 137, op := Op.move (Operand.tmp 5), type := 29, pos := "law.go:86", after := #[{ on := 30, ground := Ground.guard }], guard := some (30, true) }) (v := undef) rfl rfl (by kernel_rfl) (by kernel_rfl) (by kernel_rfl) (fun _ _ _ h => h) (Or.inr ⟨by rfl, rfl⟩) (by assumption) ?_
      try simp only [Act.put, List.setIfInBounds_toArray, List.set_cons_zero, List.set_cons_succ]
      refine tkH (i := 32) (d := some 138) (oi := { dst := some 138, op := Op.call { callee := Callee.value (Operand.func 11), args := #[Operand.tmp 137], argTypes := #[29] }, type := 3, pos := "law.go:86", after := #[{ on := 31, ground := Ground.data }, { on := 30, ground := Ground.chain }, { on := 30, ground := Ground.guard }], guard := some (30, true) }) (v := undef) rfl rfl (by kernel_rfl) (by kernel_rfl) (by kernel_rfl) (fun _ _ _ h => h) (Or.inr ⟨by rfl, rfl⟩) (by assumption) ?_
      try simp only [Act.put, List.setIfInBounds_toArray, List.set_cons_zero, List.set_cons_succ]
      refine tkH (i := 33) (d := some 139) (oi := { dst := some 139, op := Op.binOp BinOp.eql 3 (Operand.tmp 138) (Operand.const (Value.int IntKind.i64 2)) 3, type := 4, pos := "law.go:86", after := #[{ on := 32, ground := Ground.data }, { on := 30, ground := Ground.guard }], guard := some (30, true) }) (v := undef) rfl rfl (by kernel_rfl) (by kernel_rfl) (by kernel_rfl) (fun _ _ _ h => h) (Or.inr ⟨by rfl, rfl⟩) (by assumption) ?_
      try simp only [Act.put, List.setIfInBounds_toArray, List.set_cons_zero, List.set_cons_succ]
      refine tkH (i := 34) (d := some 140) (oi := { dst := some 140, op := Op.pick (Operand.tmp 136) (Operand.tmp 139) (Operand.const (Value.bool false)), type := 4, pos := "law.go:86", after := #[{ on := 30, ground := Ground.data }, { on := 33, ground := Ground.data }, { on := 17, ground := Ground.guard }], guard := some (17, false) }) (v := undef) rfl rfl (by kernel_rfl) (by kernel_rfl) (by kernel_rfl) (fun _ _ _ h => h) (Or.inr ⟨by rfl, rfl⟩) (by assumption) ?_
      try simp only [Act.put, List.setIfInBounds_toArray, List.set_cons_zero, List.set_cons_succ]
      refine tkH (i := 35) (d := some 141) (oi := { dst := some 141, op := Op.move (Operand.tmp 140), type := 4, pos := "law.go:86", after := #[{ on := 34, ground := Ground.data }, { on := 32, ground := Ground.chain }, { on := 17, ground := Ground.guard }], guard := some (17, false) }) (v := undef) rfl rfl (by kernel_rfl) (by kernel_rfl) (by kernel_rfl) (fun _ _ _ h => h) (Or.inr ⟨by rfl, rfl⟩) (by assumption) ?_
      try simp only [Act.put, List.setIfInBounds_toArray, List.set_cons_zero, List.set_cons_succ]
      refine tkH (i := 36) (d := some 142) (oi := { dst := some 142, op := Op.move (Operand.tmp 5), type := 29, pos := "law.go:86", after := #[{ on := 35, ground := Ground.guard }], guard := some (35, true) }) (v := undef) rfl rfl (by kernel_rfl) (by kernel_rfl) (by kernel_rfl) (fun _ _ _ h => h) (Or.inr ⟨by rfl, rfl⟩) (by assumption) ?_
      try simp only [Act.put, List.setIfInBounds_toArray, List.set_cons_zero, List.set_cons_succ]
      refine tkH (i := 37) (d := some 143) (oi := { dst := some 143, op := Op.call { callee := Callee.value (Operand.func 14), args := #[Operand.tmp 142], argTypes := #[29] }, type := 3, pos := "law.go:86", after := #[{ on := 36, ground := Ground.data }, { on := 35, ground := Ground.chain }, { on := 35, ground := Ground.guard }], guard := some (35, true) }) (v := undef) rfl rfl (by kernel_rfl) (by kernel_rfl) (by kernel_rfl) (fun _ _ _ h => h) (Or.inr ⟨by rfl, rfl⟩) (by assumption) ?_
      try simp only [Act.put, List.setIfInBounds_toArray, List.set_cons_zero, List.set_cons_succ]
      refine tkH (i := 38) (d := some 144) (oi := { dst := some 144, op := Op.fieldAddr 24 (Operand.tmp 1) 2, type := 0, pos := "law.go:86", after := #[{ on := 35, ground := Ground.guard }], guard := some (35, true) }) (v := undef) rfl rfl (by kernel_rfl) (by kernel_rfl) (by kernel_rfl) (fun _ _ _ h => h) (Or.inr ⟨by rfl, rfl⟩) (by assumption) ?_
      try simp only [Act.put, List.setIfInBounds_toArray, List.set_cons_zero, List.set_cons_succ]
      refine tkH (i := 39) (d := some 145) (oi := { dst := some 145, op := Op.load 3 (Operand.tmp 144), type := 3, pos := "law.go:86", after := #[{ on := 38, ground := Ground.data }, { on := 35, ground := Ground.guard }], guard := some (35, true) }) (v := undef) rfl rfl (by kernel_rfl) (by kernel_rfl) (by kernel_rfl) (fun _ _ _ h => h) (Or.inr ⟨by rfl, rfl⟩) (by assumption) ?_
      try simp only [Act.put, List.setIfInBounds_toArray, List.set_cons_zero, List.set_cons_succ]
      refine tkH (i := 40) (d := some 146) (oi := { dst := some 146, op := Op.binOp BinOp.eql 3 (Operand.tmp 143) (Operand.tmp 145) 3, type := 4, pos := "law.go:86", after := #[{ on := 37, ground := Ground.data }, { on := 39, ground := Ground.data }, { on := 35, ground := Ground.guard }], guard := some (35, true) }) (v := undef) rfl rfl (by kernel_rfl) (by kernel_rfl) (by kernel_rfl) (fun _ _ _ h => h) (Or.inr ⟨by rfl, rfl⟩) (by assumption) ?_
      try simp only [Act.put, List.setIfInBounds_toArray, List.set_cons_zero, List.set_cons_succ]
      refine tkH (i := 41) (d := some 147) (oi := { dst := some 147, op := Op.pick (Operand.tmp 141) (Operand.tmp 146) (Operand.const (Value.bool false)), type := 4, pos := "law.go:86", after := #[{ on := 35, ground := Ground.data }, { on := 40, ground := Ground.data }, { on := 17, ground := Ground.guard }], guard := some (17, false) }) (v := undef) rfl rfl (by kernel_rfl) (by kernel_rfl) (by kernel_rfl) (fun _ _ _ h => h) (Or.inr ⟨by rfl, rfl⟩) (by assumption) ?_
      try simp only [Act.put, List.setIfInBounds_toArray, List.set_cons_zero, List.set_cons_succ]
      refine tkH (i := 42) (d := some 148) (oi := { dst := some 148, op := Op.pick (Operand.tmp 123) (Operand.const (Value.bool true)) (Operand.tmp 147), type := 4, pos := "law.go:86", after := #[{ on := 17, ground := Ground.data }, { on := 41, ground := Ground.data }, { on := 10, ground := Ground.guard }], guard := some (10, true) }) (v := ?v324) rfl rfl (by kernel_rfl) (by kernel_rfl) (by kernel_rfl) (fun _ _ _ h => h) (Or.inl ⟨by rfl, ?hy324⟩) (by assumption) ?rest324
      case hy324 =>
        intro w hSw
        go_simp
        first | done | with_reducible rfl
      try simp only [Act.put, List.setIfInBounds_toArray, List.set_cons_zero, List.set_cons_succ]
      refine tkH (i := 43) (d := some 149) (oi := { dst := some 149, op := Op.pick (Operand.tmp 116) (Operand.tmp 148) (Operand.const (Value.bool false)), type := 4, pos := "law.go:86", after := #[{ on := 10, ground := Ground.data }, { on := 42, ground := Ground.data }], guard := none }) (v := ?v325) rfl rfl (by kernel_rfl) (by kernel_rfl) (by kernel_rfl) (fun _ _ _ h => h) (Or.inl ⟨by rfl, ?hy325⟩) (by assumption) ?rest325
      case hy325 =>
        intro w hSw
        go_simp
        first | done | with_reducible rfl
      try simp only [Act.put, List.setIfInBounds_toArray, List.set_cons_zero, List.set_cons_succ]
      refine tkH (i := 44) (d := some 150) (oi := { dst := some 150, op := Op.move (Operand.tmp 149), type := 4, pos := "law.go:86", after := #[{ on := 43, ground := Ground.data }, { on := 37, ground := Ground.chain }], guard := none }) (v := ?v326) rfl rfl (by kernel_rfl) (by kernel_rfl) (by kernel_rfl) (fun _ _ _ h => h) (Or.inl ⟨by rfl, ?hy326⟩) (by assumption) ?rest326
      case hy326 =>
        intro w hSw
        go_simp
        first | done | with_reducible rfl
      try simp only [Act.put, List.setIfInBounds_toArray, List.set_cons_zero, List.set_cons_succ]
      refine tkH (i := 45) (d := some 151) (oi := { dst := some 151, op := Op.move (Operand.tmp 3), type := 25, pos := "law.go:86", after := #[{ on := 44, ground := Ground.guard }], guard := some (44, true) }) (v := ?v327) rfl rfl (by kernel_rfl) (by kernel_rfl) (by kernel_rfl) (fun _ _ _ h => h) (Or.inl ⟨by rfl, ?hy327⟩) (by assumption) ?rest327
      case hy327 =>
        intro w hSw
        go_simp
        first | done | with_reducible rfl
      try simp only [Act.put, List.setIfInBounds_toArray, List.set_cons_zero, List.set_cons_succ]
      refine tkH (i := 47) (d := some 153) (oi := { dst := some 153, op := Op.move (Operand.tmp 4), type := 26, pos := "law.go:86", after := #[{ on := 44, ground := Ground.guard }], guard := some (44, true) }) (v := ?v328) rfl rfl (by kernel_rfl) (by kernel_rfl) (by kernel_rfl) (fun _ _ _ h => h) (Or.inl ⟨by rfl, ?hy328⟩) (by assumption) ?rest328
      case hy328 =>
        intro w hSw
        go_simp
        first | done | with_reducible rfl
      try simp only [Act.put, List.setIfInBounds_toArray, List.set_cons_zero, List.set_cons_succ]
      refine wpAnyH_ready (rs := [46]) (by kernel_rfl) (by simp) ?_
      refine AllReadyH.cons (o := { dst := some 152, op := Op.call { callee := Callee.value (Operand.func 15), args := #[Operand.tmp 151], argTypes := #[25] }, type := 9, pos := "law.go:86", after := #[{ on := 45, ground := Ground.data }, { on := 44, ground := Ground.chain }, { on := 44, ground := Ground.guard }], guard := some (44, true) }) rfl (fun K hK => ?_) AllReadyH.nil
      go_simp
      refine (image_c _ g bm2 (formatP S f c n).2.1 (HA9.out.stay h0) HOK8.out.1).mono ?_
      rintro e wa ⟨rfl, hfwa⟩
      have hwa := Fr.trans h0 hfwa (fun _ _ f => f)
      go_wp2_with fail
      refine hK.out _ _ (trivial) (fun hHeld => ?_)
      clear hK K
      try simp only [Act.put, List.setIfInBounds_toArray, List.set_cons_zero, List.set_cons_succ]
      refine wpAnyH_ready (rs := [48]) (by kernel_rfl) (by simp) ?_
      refine AllReadyH.cons (o := { dst := some 154, op := Op.call { callee := Callee.value (Operand.func 16), args := #[Operand.tmp 153], argTypes := #[26] }, type := 9, pos := "law.go:86", after := #[{ on := 47, ground := Ground.data }, { on := 46, ground := Ground.chain }, { on := 44, ground := Ground.guard }], guard := some (44, true) }) rfl (fun K hK => ?_) AllReadyH.nil
      go_simp
      refine (rimage_c _ m u1 u2 (formatP S f c n).2.1 (RC.stay HR9.out hwa) HOK8.out.1).mono ?_
      rintro e wb ⟨rfl, hfwb⟩
      have hwb := Fr.trans hwa hfwb (fun _ _ f => f)
      go_wp2_with fail
      refine hK.out _ _ (trivial) (fun hHeld => ?_)
      clear hK K
      try simp only [Act.put, List.setIfInBounds_toArray, List.set_cons_zero, List.set_cons_succ]
      refine tkH (i := 49) (d := some 155) (oi := { dst := some 155, op := Op.binOp BinOp.eql 9 (Operand.tmp 152) (Operand.tmp 154) 9, type := 4, pos := "law.go:86", after := #[{ on := 46, ground := Ground.data }, { on := 48, ground := Ground.data }, { on := 44, ground := Ground.guard }], guard := some (44, true) }) (v := ?v331) rfl rfl (by kernel_rfl) (by kernel_rfl) (by kernel_rfl) (fun _ _ _ h => h) (Or.inl ⟨by rfl, ?hy331⟩) (by assumption) ?rest331
      case hy331 =>
        intro w hSw
        go_simp
        first | done | with_reducible rfl
      try simp only [Act.put, List.setIfInBounds_toArray, List.set_cons_zero, List.set_cons_succ]
      refine tkH (i := 50) (d := some 156) (oi := { dst := some 156, op := Op.pick (Operand.tmp 150) (Operand.tmp 155) (Operand.const (Value.bool false)), type := 4, pos := "law.go:86", after := #[{ on := 44, ground := Ground.data }, { on := 49, ground := Ground.data }], guard := none }) (v := ?v332) rfl rfl (by kernel_rfl) (by kernel_rfl) (by kernel_rfl) (fun _ _ _ h => h) (Or.inl ⟨by rfl, ?hy332⟩) (by assumption) ?rest332
      case hy332 =>
        intro w hSw
        go_simp
        first | done | with_reducible rfl
      try simp only [Act.put, List.setIfInBounds_toArray, List.set_cons_zero, List.set_cons_succ]
      refine tkH (i := 51) (d := some 157) (oi := { dst := some 157, op := Op.move (Operand.tmp 156), type := 4, pos := "law.go:86", after := #[{ on := 50, ground := Ground.data }, { on := 48, ground := Ground.chain }], guard := none }) (v := ?v333) rfl rfl (by kernel_rfl) (by kernel_rfl) (by kernel_rfl) (fun _ _ _ h => h) (Or.inl ⟨by rfl, ?hy333⟩) (by assumption) ?rest333
      case hy333 =>
        intro w hSw
        go_simp
        first | done | with_reducible rfl
      try simp only [Act.put, List.setIfInBounds_toArray, List.set_cons_zero, List.set_cons_succ]
      refine tkH (i := 52) (d := some 158) (oi := { dst := some 158, op := Op.move (Operand.tmp 3), type := 25, pos := "law.go:86", after := #[{ on := 51, ground := Ground.guard }], guard := some (51, true) }) (v := ?v334) rfl rfl (by kernel_rfl) (by kernel_rfl) (by kernel_rfl) (fun _ _ _ h => h) (Or.inl ⟨by rfl, ?hy334⟩) (by assumption) ?rest334
      case hy334 =>
        intro w hSw
        go_simp
        first | done | with_reducible rfl
      try simp only [Act.put, List.setIfInBounds_toArray, List.set_cons_zero, List.set_cons_succ]
      refine tkH (i := 55) (d := some 161) (oi := { dst := some 161, op := Op.move (Operand.tmp 4), type := 26, pos := "law.go:86", after := #[{ on := 51, ground := Ground.guard }], guard := some (51, true) }) (v := ?v335) rfl rfl (by kernel_rfl) (by kernel_rfl) (by kernel_rfl) (fun _ _ _ h => h) (Or.inl ⟨by rfl, ?hy335⟩) (by assumption) ?rest335
      case hy335 =>
        intro w hSw
        go_simp
        first | done | with_reducible rfl
      try simp only [Act.put, List.setIfInBounds_toArray, List.set_cons_zero, List.set_cons_succ]
      refine wpAnyH_ready (rs := [53]) (by kernel_rfl) (by simp) ?_
      refine AllReadyH.cons (o := { dst := some 159, op := Op.call { callee := Callee.value (Operand.func 17), args := #[Operand.tmp 158], argTypes := #[25] }, type := 38, pos := "law.go:86", after := #[{ on := 52, ground := Ground.data }, { on := 51, ground := Ground.chain }, { on := 51, ground := Ground.guard }], guard := some (51, true) }) rfl (fun K hK => ?_) AllReadyH.nil
      go_simp
      refine (unsafe_c _ g bm2 (formatP S f c n).2.1 (HA9.out.stay hwb) HOK8.out.1).mono ?_
      rintro e wc ⟨vu, rfl, ⟨au, cu, rfl, _⟩, _, hfwc⟩
      have hwc := Fr.trans hwb hfwc (fun _ _ f => f)
      go_wp2_with fail
      refine hK.out _ _ (trivial) (fun hHeld => ?_)
      clear hK K
      try simp only [Act.put, List.setIfInBounds_toArray, List.set_cons_zero, List.set_cons_succ]
      refine tkH (i := 54) (d := some 160) (oi := { dst := some 160, op := Op.call { callee := Callee.builtin Builtin.len, args := #[Operand.tmp 159], argTypes := #[38] }, type := 3, pos := "law.go:86", after := #[{ on := 53, ground := Ground.data }, { on := 51, ground := Ground.guard }], guard := some (51, true) }) (v := ?v337) rfl rfl (by kernel_rfl) (by kernel_rfl) (by kernel_rfl) (fun _ _ _ h => h) (Or.inl ⟨by rfl, ?hy337⟩) (by assumption) ?rest337
      case hy337 =>
        intro w hSw
        go_simp
        first | done | with_reducible rfl
      try simp only [Act.put, List.setIfInBounds_toArray, List.set_cons_zero, List.set_cons_succ]
      refine wpAnyH_ready (rs := [56]) (by kernel_rfl) (by simp) ?_
      refine AllReadyH.cons (o := { dst := some 162, op := Op.call { callee := Callee.value (Operand.func 18), args := #[Operand.tmp 161], argTypes := #[26] }, type := 38, pos := "law.go:86", after := #[{ on := 55, ground := Ground.data }, { on := 53, ground := Ground.chain }, { on := 51, ground := Ground.guard }], guard := some (51, true) }) rfl (fun K hK => ?_) AllReadyH.nil
      go_simp
      refine (runsafe_v _ m u1 u2 (formatP S f c n).2.1 (RC.stay HR9.out hwc) HOK8.out.1).mono ?_
      rintro e wd ⟨vr, rfl, ⟨ar, cr, rfl, _⟩, hfwd⟩
      have hwd := Fr.trans hwc hfwd (fun _ _ f => f)
      go_wp2_with fail
      refine hK.out _ _ (trivial) (fun hHeld => ?_)
      clear hK K
      try simp only [Act.put, List.setIfInBounds_toArray, List.set_cons_zero, List.set_cons_succ]
      refine tkH (i := 57) (d := some 163) (oi := { dst := some 163, op := Op.call { callee := Callee.builtin Builtin.len, args := #[Operand.tmp 162], argTypes := #[38] }, type := 3, pos := "law.go:86", after := #[{ on := 56, ground := Ground.data }, { on := 51, ground := Ground.guard }], guard := some (51, true) }) (v := ?v339) rfl rfl (by kernel_rfl) (by kernel_rfl) (by kernel_rfl) (fun _ _ _ h => h) (Or.inl ⟨by rfl, ?hy339⟩) (by assumption) ?rest339
      case hy339 =>
        intro w hSw
        go_simp
        first | done | with_reducible rfl
      try simp only [Act.put, List.setIfInBounds_toArray, List.set_cons_zero, List.set_cons_succ]
      refine tkH (i := 58) (d := some 164) (oi := { dst := some 164, op := Op.binOp BinOp.eql 3 (Operand.tmp 160) (Operand.tmp 163) 3, type := 4, pos := "law.go:86", after := #[{ on := 54, ground := Ground.data }, { on := 57, ground := Ground.data }, { on := 51, ground := Ground.guard }], guard := some (51, true) }) (v := ?v340) rfl rfl (by kernel_rfl) (by kernel_rfl) (by kernel_rfl) (fun _ _ _ h => h) (Or.inl ⟨by rfl, ?hy340⟩) (by assumption) ?rest340
      case hy340 =>
        intro w hSw
        go_simp
        first | done | with_reducible rfl
      try simp only [Act.put, List.setIfInBounds_toArray, List.set_cons_zero, List.set_cons_succ]
      refine tkH (i := 59) (d := some 165) (oi := { dst := some 165, op := Op.pick (Operand.tmp 157) (Operand.tmp 164) (Operand.const (Value.bool false)), type := 4, pos := "law.go:86", after := #[{ on := 51, ground := Ground.data }, { on := 58, ground := Ground.data }], guard := none }) (v := ?v341) rfl rfl (by kernel_rfl) (by kernel_rfl) (by kernel_rfl) (fun _ _ _ h => h) (Or.inl ⟨by rfl, ?hy341⟩) (by assumption) ?rest341
      case hy341 =>
        intro w hSw
        go_simp
        first | done | with_reducible rfl
      try simp only [Act.put, List.setIfInBounds_toArray, List.set_cons_zero, List.set_cons_succ]
      refine tkH (i := 60) (d := some 2) (oi := { dst := some 2, op := Op.assign (Operand.tmp 165), type := 4, pos := "law.go:86", after := #[{ on := 59, ground := Ground.data }, { on := 56, ground := Ground.chain }, { on := 0, ground := Ground.phase }, { on := 1, ground := Ground.phase }, { on := 2, ground := Ground.phase }, { on := 3, ground := Ground.phase }, { on := 4, ground := Ground.phase }, { on := 5, ground := Ground.phase }, { on := 6, ground := Ground.phase }, { on := 7, ground := Ground.phase }, { on := 8, ground := Ground.phase }, { on := 9, ground := Ground.phase }, { on := 10, ground := Ground.phase }, { on := 11, ground := Ground.phase }, { on := 12, ground := Ground.phase }, { on := 13, ground := Ground.phase }, { on := 14, ground := Ground.phase }, { on := 15, ground := Ground.phase }, { on := 16, ground := Ground.phase }, { on := 17, ground := Ground.phase }, { on := 18, ground := Ground.phase }, { on := 19, ground := Ground.phase }, { on := 20, ground := Ground.phase }, { on := 21, ground := Ground.phase }, { on := 22, ground := Ground.phase }, { on := 23, ground := Ground.phase }, { on := 24, ground := Ground.phase }, { on := 25, ground := Ground.phase }, { on := 26, ground := Ground.phase }, { on := 27, ground := Ground.phase }, { on := 28, ground := Ground.phase }, { on := 29, ground := Ground.phase }, { on := 30, ground := Ground.phase }, { on := 31, ground := Ground.phase }, { on := 32, ground := Ground.phase }, { on := 33, ground := Ground.phase }, { on := 34, ground := Ground.phase }, { on := 35, ground := Ground.phase }, { on := 36, ground := Ground.phase }, { on := 37, ground := Ground.phase }, { on := 38, ground := Ground.phase }, { on := 39, ground := Ground.phase }, { on := 40, ground := Ground.phase }, { on := 41, ground := Ground.phase }, { on := 42, ground := Ground.phase }, { on := 43, ground := Ground.phase }, { on := 44, ground := Ground.phase }, { on := 45, ground := Ground.phase }, { on := 46, ground := Ground.phase }, { on := 47, ground := Ground.phase }, { on := 48, ground := Ground.phase }, { on := 49, ground := Ground.phase }, { on := 50, ground := Ground.phase }, { on := 51, ground := Ground.phase }, { on := 52, ground := Ground.phase }, { on := 53, ground := Ground.phase }, { on := 54, ground := Ground.phase }, { on := 55, ground := Ground.phase }, { on := 56, ground := Ground.phase }, { on := 57, ground := Ground.phase }, { on := 58, ground := Ground.phase }, { on := 59, ground := Ground.phase }], guard := none }) (v := ?v342) rfl rfl (by kernel_rfl) (by kernel_rfl) (by kernel_rfl) (fun _ _ _ h => h) (Or.inl ⟨by rfl, ?hy342⟩) (by assumption) ?rest342
      case hy342 =>
        intro w hSw
        go_simp
        first | done | with_reducible rfl
      try simp only [Act.put, List.setIfInBounds_toArray, List.set_cons_zero, List.set_cons_succ]
      refine wpAnyH_done (by kernel_rfl) ?_ _
      go_wp2_with fail
      go_ret
      refine ⟨rfl, ?_⟩
      exact HFIN.out _ hwd
    · subst hP2
      obtain ⟨p2, ml2, mt2, bm2, h8, hpd8, hp2l, hml2, hmt2, hbm2⟩ := HP8.out.2.1 _ hfp
      subst h8
      have HPD8 := hid hpd8
      have HFP := hid hfp
      have HNEW := hid (And.intro hp2l (And.intro hml2 hmt2))
      have HPK := hid (pchk_ok hpc)
      clear hpd8 hp2l hml2 hmt2 hbm2 hfp hpc
      go_wp2_with fail
      refine HRF.out.mono ?_
      intro e9 w9 hp9
      obtain ⟨q2, ub2, u1, u2, h9, hrp9, hq2, hub2, hu1, hu2⟩ := hp9.2.1 _ HFP.out
      subst h9
      have hf9 := hp9.1
      have HPD9 := hid (show PD w9 p2 g bm2 ml2 mt2 (PSt.of f.toNat c.toNat (2, -1, n.toNat)) (formatP S f c n).2.1 by
        obtain ⟨⟨_, _, _, hm1, _⟩, ⟨_, hm2, _⟩, ⟨_, hm3, _⟩, _⟩ := HRX.out
        have a1 := lt_of_at hm1
        have a2 := lt_of_at hm2
        have a3 := lt_of_at hm3
        obtain ⟨b1', b2', b3'⟩ := HNEW.out
        obtain ⟨⟨s1, s2, s3, s4⟩, s5, s6, s7⟩ := HPD8.out
        exact ⟨⟨hf9.at s1 (by omega), s2.keep hf9 (by omega), s3.keep hf9 (by omega), s4⟩, s5.besideR HR8.out hf9, s6, s7⟩)
      have HA9 := hid HPD9.out.da
      have HR9 := hid hrp9.ra
      have en : ((n.toNat : Nat) : Int) = n := by have := HPK.out; omega
      have ec : ((c.toNat : Nat) : Int) = c := by have := HPK.out; omega
      obtain ⟨cap9, hq9⟩ := hrp9.pa.cells
      have r4 : w9.cell? ⟨q2, 4, none⟩ = some (.int .i64 n) := by
        rw [cell_at hq9 4, ← en]
        rfl
      have hb9 := hf9.at HB8.out (by have := HXN.out; omega)
      have r2 : w9.cell? ⟨x1, 2, none⟩ = some (.int .i64 c) := cell_at hb9 2
      have y4 : w9.drew.cell? ⟨q2, 4, none⟩ = some (.int .i64 n) := r4
      have y2 : w9.drew.cell? ⟨x1, 2, none⟩ = some (.int .i64 c) := r2
      have h0 : Fr (fun _ => False) w9 w9.drew := (Fr.refl _ w9).drew
      have HRT := hid (show Calls Tryz.prog 9 #[.pointer (some ⟨p2, 0, none⟩)] w9.drew fun e w' => e = .returned (.int .i64 (-1)) ∧ w' = w9.drew from root_c _ p2 g ml2 mt2 _ (HPD9.out.stay h0).pa)
      have HFR := hid (show Calls Tryz.prog 10 #[.pointer (some ⟨p2, 0, none⟩)] w9.drew fun e w' => e = .returned (.int .i64 n) ∧ w' = w9.drew by
        have := from_c _ p2 g ml2 mt2 _ (HPD9.out.stay h0).pa
        rw [show (PSt.of f.toNat c.toNat (2, -1, n.toNat)).from_ = n.toNat from rfl, en] at this
        exact this)
      have HGE := hid (show Calls Tryz.prog 11 #[.pointer (some ⟨p2, 0, none⟩)] w9.drew fun e w' => e = .returned (.int .i64 2) ∧ w' = w9.drew from gen_c _ p2 g ml2 mt2 _ (HPD9.out.stay h0).pa)
      have HFE := hid (show Calls Tryz.prog 14 #[.pointer (some ⟨p2, 0, none⟩)] w9.drew fun e w' => e = .returned (.int .i64 c) ∧ Fr (fun _ => False) w9.drew w' by
        have := free_c _ p2 g ml2 mt2 _ (HPD9.out.stay h0).pa (by show c.toNat ≤ 4096; have := HPK.out; omega)
        rw [of_free, ec] at this
        exact this)
      have HFIN := hid (fun (W : World) (hf : Fr (fun _ => False) w9 W) => show Fr (fun _ => False) w W by
        have hlo := HDJ.out.low
        have hx1 : w.heap.size ≤ w1.heap.size := HF1.out.size
        exact ((((HF1.out.trans HDJ.out.fr (fun _ _ f => f)).trans (HF3.out.trans HX3.out (fun _ _ f => f)) (fun _ _ f => f)).trans HP8.out.1 (fun i hi e => by omega)).trans hf9 (fun i hi e => by omega)).trans hf (fun _ _ f => f))
      clear hp9 hrp9 hq2 hub2 hu1 hu2 hq9 hb9 HRF j1 j2 j3 en ec
      go_wp2_with fail
      refine wp_region_held_drew (S := fun w' => w'.cell? ⟨q2, 4, none⟩ = some (.int .i64 n) ∧ w'.cell? ⟨x1, 2, none⟩ = some (.int .i64 c)) (by kernel_rfl) (⟨y4, y2⟩) (fun hHeld => ?_)
      refine tkH (i := 0) (d := some 106) (oi := { dst := some 106, op := Op.move (Operand.tmp 6), type := 30, pos := "law.go:86", after := #[], guard := none }) (v := ?v221) rfl rfl (by kernel_rfl) (by kernel_rfl) (by kernel_rfl) (fun _ _ _ h => h) (Or.inl ⟨by rfl, ?hy221⟩) (by assumption) ?rest221
      case hy221 =>
        intro w hSw
        go_simp
        first | done | with_reducible rfl
      try simp only [Act.put, List.setIfInBounds_toArray, List.set_cons_zero, List.set_cons_succ]
      refine tkH (i := 1) (d := some 107) (oi := { dst := some 107, op := Op.move (Operand.tmp 8), type := 30, pos := "law.go:86", after := #[], guard := none }) (v := ?v222) rfl rfl (by kernel_rfl) (by kernel_rfl) (by kernel_rfl) (fun _ _ _ h => h) (Or.inl ⟨by rfl, ?hy222⟩) (by assumption) ?rest222
      case hy222 =>
        intro w hSw
        go_simp
        first | done | with_reducible rfl
      try simp only [Act.put, List.setIfInBounds_toArray, List.set_cons_zero, List.set_cons_succ]
      refine tkH (i := 2) (d := some 108) (oi := { dst := some 108, op := Op.binOp BinOp.eql 30 (Operand.tmp 106) (Operand.tmp 107) 30, type := 4, pos := "law.go:86", after := #[{ on := 0, ground := Ground.data }, { on := 1, ground := Ground.data }], guard := none }) (v := ?v223) rfl rfl (by kernel_rfl) (by kernel_rfl) (by kernel_rfl) (fun _ _ _ h => h) (Or.inl ⟨by rfl, ?hy223⟩) (by assumption) ?rest223
      case hy223 =>
        intro w hSw
        go_simp
        first | done | with_reducible rfl
      try simp only [Act.put, List.setIfInBounds_toArray, List.set_cons_zero, List.set_cons_succ]
      refine tkH (i := 3) (d := some 109) (oi := { dst := some 109, op := Op.move (Operand.tmp 108), type := 4, pos := "law.go:86", after := #[{ on := 2, ground := Ground.data }], guard := none }) (v := ?v224) rfl rfl (by kernel_rfl) (by kernel_rfl) (by kernel_rfl) (fun _ _ _ h => h) (Or.inl ⟨by rfl, ?hy224⟩) (by assumption) ?rest224
      case hy224 =>
        intro w hSw
        go_simp
        first | done | with_reducible rfl
      try simp only [Act.put, List.setIfInBounds_toArray, List.set_cons_zero, List.set_cons_succ]
      refine tkH (i := 4) (d := some 110) (oi := { dst := some 110, op := Op.move (Operand.tmp 5), type := 29, pos := "law.go:86", after := #[{ on := 3, ground := Ground.guard }], guard := some (3, true) }) (v := ?v225) rfl rfl (by kernel_rfl) (by kernel_rfl) (by kernel_rfl) (fun _ _ _ h => h) (Or.inl ⟨by rfl, ?hy225⟩) (by assumption) ?rest225
      case hy225 =>
        intro w hSw
        go_simp
        first | done | with_reducible rfl
      try simp only [Act.put, List.setIfInBounds_toArray, List.set_cons_zero, List.set_cons_succ]
      refine tkH (i := 5) (d := some 111) (oi := { dst := some 111, op := Op.binOp BinOp.eql 29 (Operand.tmp 110) (Operand.const (Value.pointer none)) 29, type := 4, pos := "law.go:86", after := #[{ on := 4, ground := Ground.data }, { on := 3, ground := Ground.guard }], guard := some (3, true) }) (v := ?v226) rfl rfl (by kernel_rfl) (by kernel_rfl) (by kernel_rfl) (fun _ _ _ h => h) (Or.inl ⟨by rfl, ?hy226⟩) (by assumption) ?rest226
      case hy226 =>
        intro w hSw
        go_simp
        first | done | with_reducible rfl
      try simp only [Act.put, List.setIfInBounds_toArray, List.set_cons_zero, List.set_cons_succ]
      refine tkH (i := 6) (d := some 112) (oi := { dst := some 112, op := Op.move (Operand.tmp 6), type := 30, pos := "law.go:86", after := #[{ on := 3, ground := Ground.guard }], guard := some (3, true) }) (v := ?v227) rfl rfl (by kernel_rfl) (by kernel_rfl) (by kernel_rfl) (fun _ _ _ h => h) (Or.inl ⟨by rfl, ?hy227⟩) (by assumption) ?rest227
      case hy227 =>
        intro w hSw
        go_simp
        first | done | with_reducible rfl
      try simp only [Act.put, List.setIfInBounds_toArray, List.set_cons_zero, List.set_cons_succ]
      refine tkH (i := 7) (d := some 113) (oi := { dst := some 113, op := Op.binOp BinOp.neq 30 (Operand.tmp 112) (Operand.const (Value.int IntKind.i64 0)) 30, type := 4, pos := "law.go:86", after := #[{ on := 6, ground := Ground.data }, { on := 3, ground := Ground.guard }], guard := some (3, true) }) (v := ?v228) rfl rfl (by kernel_rfl) (by kernel_rfl) (by kernel_rfl) (fun _ _ _ h => h) (Or.inl ⟨by rfl, ?hy228⟩) (by assumption) ?rest228
      case hy228 =>
        intro w hSw
        go_simp
        first | done | with_reducible rfl
      try simp only [Act.put, List.setIfInBounds_toArray, List.set_cons_zero, List.set_cons_succ]
      refine tkH (i := 8) (d := some 114) (oi := { dst := some 114, op := Op.binOp BinOp.eql 4 (Operand.tmp 111) (Operand.tmp 113) 4, type := 4, pos := "law.go:86", after := #[{ on := 5, ground := Ground.data }, { on := 7, ground := Ground.data }, { on := 3, ground := Ground.guard }], guard := some (3, true) }) (v := ?v229) rfl rfl (by kernel_rfl) (by kernel_rfl) (by kernel_rfl) (fun _ _ _ h => h) (Or.inl ⟨by rfl, ?hy229⟩) (by assumption) ?rest229
      case hy229 =>
        intro w hSw
        go_simp
        first | done | with_reducible rfl
      try simp only [Act.put, List.setIfInBounds_toArray, List.set_cons_zero, List.set_cons_succ]
      refine tkH (i := 9) (d := some 115) (oi := { dst := some 115, op := Op.pick (Operand.tmp 109) (Operand.tmp 114) (Operand.const (Value.bool false)), type := 4, pos := "law.go:86", after := #[{ on := 3, ground := Ground.data }, { on := 8, ground := Ground.data }], guard := none }) (v := ?v230) rfl rfl (by kernel_rfl) (by kernel_rfl) (by kernel_rfl) (fun _ _ _ h => h) (Or.inl ⟨by rfl, ?hy230⟩) (by assumption) ?rest230
      case hy230 =>
        intro w hSw
        go_simp
        first | done | with_reducible rfl
      try simp only [Act.put, List.setIfInBounds_toArray, List.set_cons_zero, List.set_cons_succ]
      refine tkH (i := 10) (d := some 116) (oi := { dst := some 116, op := Op.move (Operand.tmp 115), type := 4, pos := "law.go:86", after := #[{ on := 9, ground := Ground.data }, { on := 3, ground := Ground.chain }], guard := none }) (v := ?v231) rfl rfl (by kernel_rfl) (by kernel_rfl) (by kernel_rfl) (fun _ _ _ h => h) (Or.inl ⟨by rfl, ?hy231⟩) (by assumption) ?rest231
      case hy231 =>
        intro w hSw
        go_simp
        first | done | with_reducible rfl
      try simp only [Act.put, List.setIfInBounds_toArray, List.set_cons_zero, List.set_cons_succ]
      refine tkH (i := 11) (d := some 117) (oi := { dst := some 117, op := Op.move (Operand.tmp 5), type := 29, pos := "law.go:86", after := #[{ on := 10, ground := Ground.guard }], guard := some (10, true) }) (v := ?v232) rfl rfl (by kernel_rfl) (by kernel_rfl) (by kernel_rfl) (fun _ _ _ h => h) (Or.inl ⟨by rfl, ?hy232⟩) (by assumption) ?rest232
      case hy232 =>
        intro w hSw
        go_simp
        first | done | with_reducible rfl
      try simp only [Act.put, List.setIfInBounds_toArray, List.set_cons_zero, List.set_cons_succ]
      refine tkH (i := 12) (d := some 118) (oi := { dst := some 118, op := Op.binOp BinOp.eql 29 (Operand.tmp 117) (Operand.const (Value.pointer none)) 29, type := 4, pos := "law.go:86", after := #[{ on := 11, ground := Ground.data }, { on := 10, ground := Ground.guard }], guard := some (10, true) }) (v := ?v233) rfl rfl (by kernel_rfl) (by kernel_rfl) (by kernel_rfl) (fun _ _ _ h => h) (Or.inl ⟨by rfl, ?hy233⟩) (by assumption) ?rest233
      case hy233 =>
        intro w hSw
        go_simp
        first | done | with_reducible rfl
      try simp only [Act.put, List.setIfInBounds_toArray, List.set_cons_zero, List.set_cons_succ]
      refine tkH (i := 13) (d := some 119) (oi := { dst := some 119, op := Op.move (Operand.tmp 118), type := 4, pos := "law.go:86", after := #[{ on := 12, ground := Ground.data }, { on := 10, ground := Ground.chain }, { on := 10, ground := Ground.guard }], guard := some (10, true) }) (v := ?v234) rfl rfl (by kernel_rfl) (by kernel_rfl) (by kernel_rfl) (fun _ _ _ h => h) (Or.inl ⟨by rfl, ?hy234⟩) (by assumption) ?rest234
      case hy234 =>
        intro w hSw
        go_simp
        first | done | with_reducible rfl
      try simp only [Act.put, List.setIfInBounds_toArray, List.set_cons_zero, List.set_cons_succ]
      refine tkH (i := 14) (d := some 120) (oi := { dst := some 120, op := Op.move (Operand.tmp 7), type := 33, pos := "law.go:86", after := #[{ on := 13, ground := Ground.guard }], guard := some (13, false) }) (v := ?v235) rfl rfl (by kernel_rfl) (by kernel_rfl) (by kernel_rfl) (fun _ _ _ h => h) (Or.inl ⟨by rfl, ?hy235⟩) (by assumption) ?rest235
      case hy235 =>
        intro w hSw
        go_simp
        first | done | with_reducible rfl
      try simp only [Act.put, List.setIfInBounds_toArray, List.set_cons_zero, List.set_cons_succ]
      refine tkH (i := 15) (d := some 121) (oi := { dst := some 121, op := Op.binOp BinOp.eql 33 (Operand.tmp 120) (Operand.const (Value.pointer none)) 33, type := 4, pos := "law.go:86", after := #[{ on := 14, ground := Ground.data }, { on := 13, ground := Ground.guard }], guard := some (13, false) }) (v := ?v236) rfl rfl (by kernel_rfl) (by kernel_rfl) (by kernel_rfl) (fun _ _ _ h => h) (Or.inl ⟨by rfl, ?hy236⟩) (by assumption) ?rest236
      case hy236 =>
        intro w hSw
        go_simp
        first | done | with_reducible rfl
      try simp only [Act.put, List.setIfInBounds_toArray, List.set_cons_zero, List.set_cons_succ]
      refine tkH (i := 16) (d := some 122) (oi := { dst := some 122, op := Op.pick (Operand.tmp 119) (Operand.const (Value.bool true)) (Operand.tmp 121), type := 4, pos := "law.go:86", after := #[{ on := 13, ground := Ground.data }, { on := 15, ground := Ground.data }, { on := 10, ground := Ground.guard }], guard := some (10, true) }) (v := ?v237) rfl rfl (by kernel_rfl) (by kernel_rfl) (by kernel_rfl) (fun _ _ _ h => h) (Or.inl ⟨by rfl, ?hy237⟩) (by assumption) ?rest237
      case hy237 =>
        intro w hSw
        go_simp
        first | done | with_reducible rfl
      try simp only [Act.put, List.setIfInBounds_toArray, List.set_cons_zero, List.set_cons_succ]
      refine tkH (i := 17) (d := some 123) (oi := { dst := some 123, op := Op.move (Operand.tmp 122), type := 4, pos := "law.go:86", after := #[{ on := 16, ground := Ground.data }, { on := 13, ground := Ground.chain }, { on := 10, ground := Ground.guard }], guard := some (10, true) }) (v := ?v238) rfl rfl (by kernel_rfl) (by kernel_rfl) (by kernel_rfl) (fun _ _ _ h => h) (Or.inl ⟨by rfl, ?hy238⟩) (by assumption) ?rest238
      case hy238 =>
        intro w hSw
        go_simp
        first | done | with_reducible rfl
      try simp only [Act.put, List.setIfInBounds_toArray, List.set_cons_zero, List.set_cons_succ]
      refine tkH (i := 18) (d := some 124) (oi := { dst := some 124, op := Op.move (Operand.tmp 5), type := 29, pos := "law.go:86", after := #[{ on := 17, ground := Ground.guard }], guard := some (17, false) }) (v := ?v239) rfl rfl (by kernel_rfl) (by kernel_rfl) (by kernel_rfl) (fun _ _ _ h => h) (Or.inl ⟨by rfl, ?hy239⟩) (by assumption) ?rest239
      case hy239 =>
        intro w hSw
        go_simp
        first | done | with_reducible rfl
      try simp only [Act.put, List.setIfInBounds_toArray, List.set_cons_zero, List.set_cons_succ]
      refine wpAnyH_ready (rs := [19]) (by kernel_rfl) (by simp) ?_
      refine AllReadyH.cons (o := { dst := some 125, op := Op.call { callee := Callee.value (Operand.func 9), args := #[Operand.tmp 124], argTypes := #[29] }, type := 3, pos := "law.go:86", after := #[{ on := 18, ground := Ground.data }, { on := 17, ground := Ground.chain }, { on := 17, ground := Ground.guard }], guard := some (17, false) }) rfl (fun K hK => ?_) AllReadyH.nil
      go_simp
      refine HRT.out.mono ?_
      rintro e wr1 ⟨rfl, hwr1⟩
      subst hwr1
      go_wp2_with fail
      refine hK.out _ _ (⟨y4, y2⟩) (fun hHeld => ?_)
      clear hK K
      try simp only [Act.put, List.setIfInBounds_toArray, List.set_cons_zero, List.set_cons_succ]
      refine tkH (i := 20) (d := some 126) (oi := { dst := some 126, op := Op.binOp BinOp.eql 3 (Operand.tmp 125) (Operand.const (Value.int IntKind.i64 (-1))) 3, type := 4, pos := "law.go:86", after := #[{ on := 19, ground := Ground.data }, { on := 17, ground := Ground.guard }], guard := some (17, false) }) (v := ?v241) rfl rfl (by kernel_rfl) (by kernel_rfl) (by kernel_rfl) (fun _ _ _ h => h) (Or.inl ⟨by rfl, ?hy241⟩) (by assumption) ?rest241
      case hy241 =>
        intro w hSw
        go_simp
        first | done | with_reducible rfl
      try simp only [Act.put, List.setIfInBounds_toArray, List.set_cons_zero, List.set_cons_succ]
      refine tkH (i := 21) (d := some 127) (oi := { dst := some 127, op := Op.move (Operand.tmp 126), type := 4, pos := "law.go:86", after := #[{ on := 20, ground := Ground.data }, { on := 19, ground := Ground.chain }, { on := 17, ground := Ground.guard }], guard := some (17, false) }) (v := ?v242) rfl rfl (by kernel_rfl) (by kernel_rfl) (by kernel_rfl) (fun _ _ _ h => h) (Or.inl ⟨by rfl, ?hy242⟩) (by assumption) ?rest242
      case hy242 =>
        intro w hSw
        go_simp
        first | done | with_reducible rfl
      try simp only [Act.put, List.setIfInBounds_toArray, List.set_cons_zero, List.set_cons_succ]
      refine tkH (i := 22) (d := some 128) (oi := { dst := some 128, op := Op.move (Operand.tmp 5), type := 29, pos := "law.go:86", after := #[{ on := 21, ground := Ground.guard }], guard := some (21, true) }) (v := ?v243) rfl rfl (by kernel_rfl) (by kernel_rfl) (by kernel_rfl) (fun _ _ _ h => h) (Or.inl ⟨by rfl, ?hy243⟩) (by assumption) ?rest243
      case hy243 =>
        intro w hSw
        go_simp
        first | done | with_reducible rfl
      try simp only [Act.put, List.setIfInBounds_toArray, List.set_cons_zero, List.set_cons_succ]
      refine tkH (i := 24) (d := some 130) (oi := { dst := some 130, op := Op.move (Operand.tmp 7), type := 33, pos := "law.go:86", after := #[{ on := 21, ground := Ground.guard }], guard := some (21, true) }) (v := ?v244) rfl rfl (by kernel_rfl) (by kernel_rfl) (by kernel_rfl) (fun _ _ _ h => h) (Or.inl ⟨by rfl, ?hy244⟩) (by assumption) ?rest244
      case hy244 =>
        intro w hSw
        go_simp
        first | done | with_reducible rfl
      try simp only [Act.put, List.setIfInBounds_toArray, List.set_cons_zero, List.set_cons_succ]
      refine tkH (i := 25) (d := some 131) (oi := { dst := some 131, op := Op.nilCheck (Operand.tmp 130), type := 0, pos := "law.go:86", after := #[{ on := 24, ground := Ground.data }, { on := 21, ground := Ground.guard }], guard := some (21, true) }) (v := ?v245) rfl rfl (by kernel_rfl) (by kernel_rfl) (by kernel_rfl) (fun _ _ _ h => h) (Or.inl ⟨by rfl, ?hy245⟩) (by assumption) ?rest245
      case hy245 =>
        intro w hSw
        go_simp
        first | done | with_reducible rfl
      try simp only [Act.put, List.setIfInBounds_toArray, List.set_cons_zero, List.set_cons_succ]
      refine tkH (i := 26) (d := some 132) (oi := { dst := some 132, op := Op.fieldAddr 40 (Operand.tmp 131) 4, type := 0, pos := "law.go:86", after := #[{ on := 25, ground := Ground.data }, { on := 21, ground := Ground.guard }], guard := some (21, true) }) (v := ?v246) rfl rfl (by kernel_rfl) (by kernel_rfl) (by kernel_rfl) (fun _ _ _ h => h) (Or.inl ⟨by rfl, ?hy246⟩) (by assumption) ?rest246
      case hy246 =>
        intro w hSw
        go_simp
        first | done | with_reducible rfl
      try simp only [Act.put, List.setIfInBounds_toArray, List.set_cons_zero, List.set_cons_succ]
      refine tkH (i := 27) (d := some 133) (oi := { dst := some 133, op := Op.load 3 (Operand.tmp 132), type := 3, pos := "law.go:86", after := #[{ on := 26, ground := Ground.data }, { on := 21, ground := Ground.guard }], guard := some (21, true) }) (v := ?v247) rfl rfl (by kernel_rfl) (by kernel_rfl) (by kernel_rfl) (fun _ _ _ h => h) (Or.inl ⟨by rfl, ?hy247⟩) (by assumption) ?rest247
      case hy247 =>
        intro w hSw
        go_simp
        first | done | with_reducible rfl
      try simp only [Act.put, List.setIfInBounds_toArray, List.set_cons_zero, List.set_cons_succ]
      refine wpAnyH_ready (rs := [23]) (by kernel_rfl) (by simp) ?_
      refine AllReadyH.cons (o := { dst := some 129, op := Op.call { callee := Callee.value (Operand.func 10), args := #[Operand.tmp 128], argTypes := #[29] }, type := 3, pos := "law.go:86", after := #[{ on := 22, ground := Ground.data }, { on := 21, ground := Ground.chain }, { on := 21, ground := Ground.guard }], guard := some (21, true) }) rfl (fun K hK => ?_) AllReadyH.nil
      go_simp
      refine HFR.out.mono ?_
      rintro e wr2 ⟨rfl, hwr2⟩
      subst hwr2
      go_wp2_with fail
      refine hK.out _ _ (⟨y4, y2⟩) (fun hHeld => ?_)
      clear hK K
      try simp only [Act.put, List.setIfInBounds_toArray, List.set_cons_zero, List.set_cons_succ]
      refine tkH (i := 28) (d := some 134) (oi := { dst := some 134, op := Op.binOp BinOp.eql 3 (Operand.tmp 129) (Operand.tmp 133) 3, type := 4, pos := "law.go:86", after := #[{ on := 23, ground := Ground.data }, { on := 27, ground := Ground.data }, { on := 21, ground := Ground.guard }], guard := some (21, true) }) (v := ?v249) rfl rfl (by kernel_rfl) (by kernel_rfl) (by kernel_rfl) (fun _ _ _ h => h) (Or.inl ⟨by rfl, ?hy249⟩) (by assumption) ?rest249
      case hy249 =>
        intro w hSw
        go_simp
        first | done | with_reducible rfl
      try simp only [Act.put, List.setIfInBounds_toArray, List.set_cons_zero, List.set_cons_succ]
      refine tkH (i := 29) (d := some 135) (oi := { dst := some 135, op := Op.pick (Operand.tmp 127) (Operand.tmp 134) (Operand.const (Value.bool false)), type := 4, pos := "law.go:86", after := #[{ on := 21, ground := Ground.data }, { on := 28, ground := Ground.data }, { on := 17, ground := Ground.guard }], guard := some (17, false) }) (v := ?v250) rfl rfl (by kernel_rfl) (by kernel_rfl) (by kernel_rfl) (fun _ _ _ h => h) (Or.inl ⟨by rfl, ?hy250⟩) (by assumption) ?rest250
      case hy250 =>
        intro w hSw
        go_simp
        first | done | with_reducible rfl
      try simp only [Act.put, List.setIfInBounds_toArray, List.set_cons_zero, List.set_cons_succ]
      refine tkH (i := 30) (d := some 136) (oi := { dst := some 136, op := Op.move (Operand.tmp 135), type := 4, pos := "law.go:86", after := #[{ on := 29, ground := Ground.data }, { on := 23, ground := Ground.chain }, { on := 17, ground := Ground.guard }], guard := some (17, false) }) (v := ?v251) rfl rfl (by kernel_rfl) (by kernel_rfl) (by kernel_rfl) (fun _ _ _ h => h) (Or.inl ⟨by rfl, ?hy251⟩) (by assumption) ?rest251
      case hy251 =>
        intro w hSw
        go_simp
        first | done | with_reducible rfl
      try simp only [Act.put, List.setIfInBounds_toArray, List.set_cons_zero, List.set_cons_succ]
      refine tkH (i := 31) (d := some 137) (oi := { dst := some 137, op := Op.move (Operand.tmp 5), type := 29, pos := "law.go:86", after := #[{ on := 30, ground := Ground.guard }], guard := some (30, true) }) (v := ?v252) rfl rfl (by kernel_rfl) (by kernel_rfl) (by kernel_rfl) (fun _ _ _ h => h) (Or.inl ⟨by rfl, ?hy252⟩) (by assumption) ?rest252
      case hy252 =>
        intro w hSw
        go_simp
        first | done | with_reducible rfl
      try simp only [Act.put, List.setIfInBounds_toArray, List.set_cons_zero, List.set_cons_succ]
      refine wpAnyH_ready (rs := [32]) (by kernel_rfl) (by simp) ?_
      refine AllReadyH.cons (o := { dst := some 138, op := Op.call { callee := Callee.value (Operand.func 11), args := #[Operand.tmp 137], argTypes := #[29] }, type := 3, pos := "law.go:86", after := #[{ on := 31, ground := Ground.data }, { on := 30, ground := Ground.chain }, { on := 30, ground := Ground.guard }], guard := some (30, true) }) rfl (fun K hK => ?_) AllReadyH.nil
      go_simp
      refine HGE.out.mono ?_
      rintro e wr3 ⟨rfl, hwr3⟩
      subst hwr3
      go_wp2_with fail
      refine hK.out _ _ (⟨y4, y2⟩) (fun hHeld => ?_)
      clear hK K
      try simp only [Act.put, List.setIfInBounds_toArray, List.set_cons_zero, List.set_cons_succ]
      refine tkH (i := 33) (d := some 139) (oi := { dst := some 139, op := Op.binOp BinOp.eql 3 (Operand.tmp 138) (Operand.const (Value.int IntKind.i64 2)) 3, type := 4, pos := "law.go:86", after := #[{ on := 32, ground := Ground.data }, { on := 30, ground := Ground.guard }], guard := some (30, true) }) (v := ?v254) rfl rfl (by kernel_rfl) (by kernel_rfl) (by kernel_rfl) (fun _ _ _ h => h) (Or.inl ⟨by rfl, ?hy254⟩) (by assumption) ?rest254
      case hy254 =>
        intro w hSw
        go_simp
        first | done | with_reducible rfl
      try simp only [Act.put, List.setIfInBounds_toArray, List.set_cons_zero, List.set_cons_succ]
      refine tkH (i := 34) (d := some 140) (oi := { dst := some 140, op := Op.pick (Operand.tmp 136) (Operand.tmp 139) (Operand.const (Value.bool false)), type := 4, pos := "law.go:86", after := #[{ on := 30, ground := Ground.data }, { on := 33, ground := Ground.data }, { on := 17, ground := Ground.guard }], guard := some (17, false) }) (v := ?v255) rfl rfl (by kernel_rfl) (by kernel_rfl) (by kernel_rfl) (fun _ _ _ h => h) (Or.inl ⟨by rfl, ?hy255⟩) (by assumption) ?rest255
      case hy255 =>
        intro w hSw
        go_simp
        first | done | with_reducible rfl
      try simp only [Act.put, List.setIfInBounds_toArray, List.set_cons_zero, List.set_cons_succ]
      refine tkH (i := 35) (d := some 141) (oi := { dst := some 141, op := Op.move (Operand.tmp 140), type := 4, pos := "law.go:86", after := #[{ on := 34, ground := Ground.data }, { on := 32, ground := Ground.chain }, { on := 17, ground := Ground.guard }], guard := some (17, false) }) (v := ?v256) rfl rfl (by kernel_rfl) (by kernel_rfl) (by kernel_rfl) (fun _ _ _ h => h) (Or.inl ⟨by rfl, ?hy256⟩) (by assumption) ?rest256
      case hy256 =>
        intro w hSw
        go_simp
        first | done | with_reducible rfl
      try simp only [Act.put, List.setIfInBounds_toArray, List.set_cons_zero, List.set_cons_succ]
      refine tkH (i := 36) (d := some 142) (oi := { dst := some 142, op := Op.move (Operand.tmp 5), type := 29, pos := "law.go:86", after := #[{ on := 35, ground := Ground.guard }], guard := some (35, true) }) (v := ?v257) rfl rfl (by kernel_rfl) (by kernel_rfl) (by kernel_rfl) (fun _ _ _ h => h) (Or.inl ⟨by rfl, ?hy257⟩) (by assumption) ?rest257
      case hy257 =>
        intro w hSw
        go_simp
        first | done | with_reducible rfl
      try simp only [Act.put, List.setIfInBounds_toArray, List.set_cons_zero, List.set_cons_succ]
      refine tkH (i := 38) (d := some 144) (oi := { dst := some 144, op := Op.fieldAddr 24 (Operand.tmp 1) 2, type := 0, pos := "law.go:86", after := #[{ on := 35, ground := Ground.guard }], guard := some (35, true) }) (v := ?v258) rfl rfl (by kernel_rfl) (by kernel_rfl) (by kernel_rfl) (fun _ _ _ h => h) (Or.inl ⟨by rfl, ?hy258⟩) (by assumption) ?rest258
      case hy258 =>
        intro w hSw
        go_simp
        first | done | with_reducible rfl
      try simp only [Act.put, List.setIfInBounds_toArray, List.set_cons_zero, List.set_cons_succ]
      refine tkH (i := 39) (d := some 145) (oi := { dst := some 145, op := Op.load 3 (Operand.tmp 144), type := 3, pos := "law.go:86", after := #[{ on := 38, ground := Ground.data }, { on := 35, ground := Ground.guard }], guard := some (35, true) }) (v := ?v259) rfl rfl (by kernel_rfl) (by kernel_rfl) (by kernel_rfl) (fun _ _ _ h => h) (Or.inl ⟨by rfl, ?hy259⟩) (by assumption) ?rest259
      case hy259 =>
        intro w hSw
        go_simp
        first | done | with_reducible rfl
      try simp only [Act.put, List.setIfInBounds_toArray, List.set_cons_zero, List.set_cons_succ]
      refine wpAnyH_ready (rs := [37]) (by kernel_rfl) (by simp) ?_
      refine AllReadyH.cons (o := { dst := some 143, op := Op.call { callee := Callee.value (Operand.func 14), args := #[Operand.tmp 142], argTypes := #[29] }, type := 3, pos := "law.go:86", after := #[{ on := 36, ground := Ground.data }, { on := 35, ground := Ground.chain }, { on := 35, ground := Ground.guard }], guard := some (35, true) }) rfl (fun K hK => ?_) AllReadyH.nil
      go_simp
      refine HFE.out.mono ?_
      rintro e wf ⟨rfl, hfwf⟩
      have hwf := Fr.trans h0 hfwf (fun _ _ f => f)
      go_wp2_with fail
      refine hK.out _ _ (⟨cells_stay2 hwf r4, cells_stay2 hwf r2⟩) (fun hHeld => ?_)
      clear hK K
      try simp only [Act.put, List.setIfInBounds_toArray, List.set_cons_zero, List.set_cons_succ]
      refine tkH (i := 40) (d := some 146) (oi := { dst := some 146, op := Op.binOp BinOp.eql 3 (Operand.tmp 143) (Operand.tmp 145) 3, type := 4, pos := "law.go:86", after := #[{ on := 37, ground := Ground.data }, { on := 39, ground := Ground.data }, { on := 35, ground := Ground.guard }], guard := some (35, true) }) (v := ?v261) rfl rfl (by kernel_rfl) (by kernel_rfl) (by kernel_rfl) (fun _ _ _ h => h) (Or.inl ⟨by rfl, ?hy261⟩) (by assumption) ?rest261
      case hy261 =>
        intro w hSw
        go_simp
        first | done | with_reducible rfl
      try simp only [Act.put, List.setIfInBounds_toArray, List.set_cons_zero, List.set_cons_succ]
      refine tkH (i := 41) (d := some 147) (oi := { dst := some 147, op := Op.pick (Operand.tmp 141) (Operand.tmp 146) (Operand.const (Value.bool false)), type := 4, pos := "law.go:86", after := #[{ on := 35, ground := Ground.data }, { on := 40, ground := Ground.data }, { on := 17, ground := Ground.guard }], guard := some (17, false) }) (v := ?v262) rfl rfl (by kernel_rfl) (by kernel_rfl) (by kernel_rfl) (fun _ _ _ h => h) (Or.inl ⟨by rfl, ?hy262⟩) (by assumption) ?rest262
      case hy262 =>
        intro w hSw
        go_simp
        first | done | with_reducible rfl
      try simp only [Act.put, List.setIfInBounds_toArray, List.set_cons_zero, List.set_cons_succ]
      refine tkH (i := 42) (d := some 148) (oi := { dst := some 148, op := Op.pick (Operand.tmp 123) (Operand.const (Value.bool true)) (Operand.tmp 147), type := 4, pos := "law.go:86", after := #[{ on := 17, ground := Ground.data }, { on := 41, ground := Ground.data }, { on := 10, ground := Ground.guard }], guard := some (10, true) }) (v := ?v263) rfl rfl (by kernel_rfl) (by kernel_rfl) (by kernel_rfl) (fun _ _ _ h => h) (Or.inl ⟨by rfl, ?hy263⟩) (by assumption) ?rest263
      case hy263 =>
        intro w hSw
        go_simp
        first | done | with_reducible rfl
      try simp only [Act.put, List.setIfInBounds_toArray, List.set_cons_zero, List.set_cons_succ]
      refine tkH (i := 43) (d := some 149) (oi := { dst := some 149, op := Op.pick (Operand.tmp 116) (Operand.tmp 148) (Operand.const (Value.bool false)), type := 4, pos := "law.go:86", after := #[{ on := 10, ground := Ground.data }, { on := 42, ground := Ground.data }], guard := none }) (v := ?v264) rfl rfl (by kernel_rfl) (by kernel_rfl) (by kernel_rfl) (fun _ _ _ h => h) (Or.inl ⟨by rfl, ?hy264⟩) (by assumption) ?rest264
      case hy264 =>
        intro w hSw
        go_simp
        first | done | with_reducible rfl
      try simp only [Act.put, List.setIfInBounds_toArray, List.set_cons_zero, List.set_cons_succ]
      refine tkH (i := 44) (d := some 150) (oi := { dst := some 150, op := Op.move (Operand.tmp 149), type := 4, pos := "law.go:86", after := #[{ on := 43, ground := Ground.data }, { on := 37, ground := Ground.chain }], guard := none }) (v := ?v265) rfl rfl (by kernel_rfl) (by kernel_rfl) (by kernel_rfl) (fun _ _ _ h => h) (Or.inl ⟨by rfl, ?hy265⟩) (by assumption) ?rest265
      case hy265 =>
        intro w hSw
        go_simp
        first | done | with_reducible rfl
      try simp only [Act.put, List.setIfInBounds_toArray, List.set_cons_zero, List.set_cons_succ]
      refine tkH (i := 45) (d := some 151) (oi := { dst := some 151, op := Op.move (Operand.tmp 3), type := 25, pos := "law.go:86", after := #[{ on := 44, ground := Ground.guard }], guard := some (44, true) }) (v := ?v266) rfl rfl (by kernel_rfl) (by kernel_rfl) (by kernel_rfl) (fun _ _ _ h => h) (Or.inl ⟨by rfl, ?hy266⟩) (by assumption) ?rest266
      case hy266 =>
        intro w hSw
        go_simp
        first | done | with_reducible rfl
      try simp only [Act.put, List.setIfInBounds_toArray, List.set_cons_zero, List.set_cons_succ]
      refine tkH (i := 47) (d := some 153) (oi := { dst := some 153, op := Op.move (Operand.tmp 4), type := 26, pos := "law.go:86", after := #[{ on := 44, ground := Ground.guard }], guard := some (44, true) }) (v := ?v267) rfl rfl (by kernel_rfl) (by kernel_rfl) (by kernel_rfl) (fun _ _ _ h => h) (Or.inl ⟨by rfl, ?hy267⟩) (by assumption) ?rest267
      case hy267 =>
        intro w hSw
        go_simp
        first | done | with_reducible rfl
      try simp only [Act.put, List.setIfInBounds_toArray, List.set_cons_zero, List.set_cons_succ]
      refine wpAnyH_ready (rs := [46]) (by kernel_rfl) (by simp) ?_
      refine AllReadyH.cons (o := { dst := some 152, op := Op.call { callee := Callee.value (Operand.func 15), args := #[Operand.tmp 151], argTypes := #[25] }, type := 9, pos := "law.go:86", after := #[{ on := 45, ground := Ground.data }, { on := 44, ground := Ground.chain }, { on := 44, ground := Ground.guard }], guard := some (44, true) }) rfl (fun K hK => ?_) AllReadyH.nil
      go_simp
      refine (image_c _ g bm2 (formatP S f c n).2.1 (HA9.out.stay hwf) HOK8.out.1).mono ?_
      rintro e wa ⟨rfl, hfwa⟩
      have hwa := Fr.trans hwf hfwa (fun _ _ f => f)
      go_wp2_with fail
      refine hK.out _ _ (⟨cells_stay2 hwa r4, cells_stay2 hwa r2⟩) (fun hHeld => ?_)
      clear hK K
      try simp only [Act.put, List.setIfInBounds_toArray, List.set_cons_zero, List.set_cons_succ]
      refine wpAnyH_ready (rs := [48]) (by kernel_rfl) (by simp) ?_
      refine AllReadyH.cons (o := { dst := some 154, op := Op.call { callee := Callee.value (Operand.func 16), args := #[Operand.tmp 153], argTypes := #[26] }, type := 9, pos := "law.go:86", after := #[{ on := 47, ground := Ground.data }, { on := 46, ground := Ground.chain }, { on := 44, ground := Ground.guard }], guard := some (44, true) }) rfl (fun K hK => ?_) AllReadyH.nil
      go_simp
      refine (rimage_c _ m u1 u2 (formatP S f c n).2.1 (RC.stay HR9.out hwa) HOK8.out.1).mono ?_
      rintro e wb ⟨rfl, hfwb⟩
      have hwb := Fr.trans hwa hfwb (fun _ _ f => f)
      go_wp2_with fail
      refine hK.out _ _ (⟨cells_stay2 hwb r4, cells_stay2 hwb r2⟩) (fun hHeld => ?_)
      clear hK K
      try simp only [Act.put, List.setIfInBounds_toArray, List.set_cons_zero, List.set_cons_succ]
      refine tkH (i := 49) (d := some 155) (oi := { dst := some 155, op := Op.binOp BinOp.eql 9 (Operand.tmp 152) (Operand.tmp 154) 9, type := 4, pos := "law.go:86", after := #[{ on := 46, ground := Ground.data }, { on := 48, ground := Ground.data }, { on := 44, ground := Ground.guard }], guard := some (44, true) }) (v := ?v270) rfl rfl (by kernel_rfl) (by kernel_rfl) (by kernel_rfl) (fun _ _ _ h => h) (Or.inl ⟨by rfl, ?hy270⟩) (by assumption) ?rest270
      case hy270 =>
        intro w hSw
        go_simp
        first | done | with_reducible rfl
      try simp only [Act.put, List.setIfInBounds_toArray, List.set_cons_zero, List.set_cons_succ]
      refine tkH (i := 50) (d := some 156) (oi := { dst := some 156, op := Op.pick (Operand.tmp 150) (Operand.tmp 155) (Operand.const (Value.bool false)), type := 4, pos := "law.go:86", after := #[{ on := 44, ground := Ground.data }, { on := 49, ground := Ground.data }], guard := none }) (v := ?v271) rfl rfl (by kernel_rfl) (by kernel_rfl) (by kernel_rfl) (fun _ _ _ h => h) (Or.inl ⟨by rfl, ?hy271⟩) (by assumption) ?rest271
      case hy271 =>
        intro w hSw
        go_simp
        first | done | with_reducible rfl
      try simp only [Act.put, List.setIfInBounds_toArray, List.set_cons_zero, List.set_cons_succ]
      refine tkH (i := 51) (d := some 157) (oi := { dst := some 157, op := Op.move (Operand.tmp 156), type := 4, pos := "law.go:86", after := #[{ on := 50, ground := Ground.data }, { on := 48, ground := Ground.chain }], guard := none }) (v := ?v272) rfl rfl (by kernel_rfl) (by kernel_rfl) (by kernel_rfl) (fun _ _ _ h => h) (Or.inl ⟨by rfl, ?hy272⟩) (by assumption) ?rest272
      case hy272 =>
        intro w hSw
        go_simp
        first | done | with_reducible rfl
      try simp only [Act.put, List.setIfInBounds_toArray, List.set_cons_zero, List.set_cons_succ]
      refine tkH (i := 52) (d := some 158) (oi := { dst := some 158, op := Op.move (Operand.tmp 3), type := 25, pos := "law.go:86", after := #[{ on := 51, ground := Ground.guard }], guard := some (51, true) }) (v := ?v273) rfl rfl (by kernel_rfl) (by kernel_rfl) (by kernel_rfl) (fun _ _ _ h => h) (Or.inl ⟨by rfl, ?hy273⟩) (by assumption) ?rest273
      case hy273 =>
        intro w hSw
        go_simp
        first | done | with_reducible rfl
      try simp only [Act.put, List.setIfInBounds_toArray, List.set_cons_zero, List.set_cons_succ]
      refine tkH (i := 55) (d := some 161) (oi := { dst := some 161, op := Op.move (Operand.tmp 4), type := 26, pos := "law.go:86", after := #[{ on := 51, ground := Ground.guard }], guard := some (51, true) }) (v := ?v274) rfl rfl (by kernel_rfl) (by kernel_rfl) (by kernel_rfl) (fun _ _ _ h => h) (Or.inl ⟨by rfl, ?hy274⟩) (by assumption) ?rest274
      case hy274 =>
        intro w hSw
        go_simp
        first | done | with_reducible rfl
      try simp only [Act.put, List.setIfInBounds_toArray, List.set_cons_zero, List.set_cons_succ]
      refine wpAnyH_ready (rs := [53]) (by kernel_rfl) (by simp) ?_
      refine AllReadyH.cons (o := { dst := some 159, op := Op.call { callee := Callee.value (Operand.func 17), args := #[Operand.tmp 158], argTypes := #[25] }, type := 38, pos := "law.go:86", after := #[{ on := 52, ground := Ground.data }, { on := 51, ground := Ground.chain }, { on := 51, ground := Ground.guard }], guard := some (51, true) }) rfl (fun K hK => ?_) AllReadyH.nil
      go_simp
      refine (unsafe_c _ g bm2 (formatP S f c n).2.1 (HA9.out.stay hwb) HOK8.out.1).mono ?_
      rintro e wc ⟨vu, rfl, ⟨au, cu, rfl, _⟩, _, hfwc⟩
      have hwc := Fr.trans hwb hfwc (fun _ _ f => f)
      go_wp2_with fail
      refine hK.out _ _ (⟨cells_stay2 hwc r4, cells_stay2 hwc r2⟩) (fun hHeld => ?_)
      clear hK K
      try simp only [Act.put, List.setIfInBounds_toArray, List.set_cons_zero, List.set_cons_succ]
      refine tkH (i := 54) (d := some 160) (oi := { dst := some 160, op := Op.call { callee := Callee.builtin Builtin.len, args := #[Operand.tmp 159], argTypes := #[38] }, type := 3, pos := "law.go:86", after := #[{ on := 53, ground := Ground.data }, { on := 51, ground := Ground.guard }], guard := some (51, true) }) (v := ?v276) rfl rfl (by kernel_rfl) (by kernel_rfl) (by kernel_rfl) (fun _ _ _ h => h) (Or.inl ⟨by rfl, ?hy276⟩) (by assumption) ?rest276
      case hy276 =>
        intro w hSw
        go_simp
        first | done | with_reducible rfl
      try simp only [Act.put, List.setIfInBounds_toArray, List.set_cons_zero, List.set_cons_succ]
      refine wpAnyH_ready (rs := [56]) (by kernel_rfl) (by simp) ?_
      refine AllReadyH.cons (o := { dst := some 162, op := Op.call { callee := Callee.value (Operand.func 18), args := #[Operand.tmp 161], argTypes := #[26] }, type := 38, pos := "law.go:86", after := #[{ on := 55, ground := Ground.data }, { on := 53, ground := Ground.chain }, { on := 51, ground := Ground.guard }], guard := some (51, true) }) rfl (fun K hK => ?_) AllReadyH.nil
      go_simp
      refine (runsafe_v _ m u1 u2 (formatP S f c n).2.1 (RC.stay HR9.out hwc) HOK8.out.1).mono ?_
      rintro e wd ⟨vr, rfl, ⟨ar, cr, rfl, _⟩, hfwd⟩
      have hwd := Fr.trans hwc hfwd (fun _ _ f => f)
      go_wp2_with fail
      refine hK.out _ _ (⟨cells_stay2 hwd r4, cells_stay2 hwd r2⟩) (fun hHeld => ?_)
      clear hK K
      try simp only [Act.put, List.setIfInBounds_toArray, List.set_cons_zero, List.set_cons_succ]
      refine tkH (i := 57) (d := some 163) (oi := { dst := some 163, op := Op.call { callee := Callee.builtin Builtin.len, args := #[Operand.tmp 162], argTypes := #[38] }, type := 3, pos := "law.go:86", after := #[{ on := 56, ground := Ground.data }, { on := 51, ground := Ground.guard }], guard := some (51, true) }) (v := ?v278) rfl rfl (by kernel_rfl) (by kernel_rfl) (by kernel_rfl) (fun _ _ _ h => h) (Or.inl ⟨by rfl, ?hy278⟩) (by assumption) ?rest278
      case hy278 =>
        intro w hSw
        go_simp
        first | done | with_reducible rfl
      try simp only [Act.put, List.setIfInBounds_toArray, List.set_cons_zero, List.set_cons_succ]
      refine tkH (i := 58) (d := some 164) (oi := { dst := some 164, op := Op.binOp BinOp.eql 3 (Operand.tmp 160) (Operand.tmp 163) 3, type := 4, pos := "law.go:86", after := #[{ on := 54, ground := Ground.data }, { on := 57, ground := Ground.data }, { on := 51, ground := Ground.guard }], guard := some (51, true) }) (v := ?v279) rfl rfl (by kernel_rfl) (by kernel_rfl) (by kernel_rfl) (fun _ _ _ h => h) (Or.inl ⟨by rfl, ?hy279⟩) (by assumption) ?rest279
      case hy279 =>
        intro w hSw
        go_simp
        first | done | with_reducible rfl
      try simp only [Act.put, List.setIfInBounds_toArray, List.set_cons_zero, List.set_cons_succ]
      refine tkH (i := 59) (d := some 165) (oi := { dst := some 165, op := Op.pick (Operand.tmp 157) (Operand.tmp 164) (Operand.const (Value.bool false)), type := 4, pos := "law.go:86", after := #[{ on := 51, ground := Ground.data }, { on := 58, ground := Ground.data }], guard := none }) (v := ?v280) rfl rfl (by kernel_rfl) (by kernel_rfl) (by kernel_rfl) (fun _ _ _ h => h) (Or.inl ⟨by rfl, ?hy280⟩) (by assumption) ?rest280
      case hy280 =>
        intro w hSw
        go_simp
        first | done | with_reducible rfl
      try simp only [Act.put, List.setIfInBounds_toArray, List.set_cons_zero, List.set_cons_succ]
      refine tkH (i := 60) (d := some 2) (oi := { dst := some 2, op := Op.assign (Operand.tmp 165), type := 4, pos := "law.go:86", after := #[{ on := 59, ground := Ground.data }, { on := 56, ground := Ground.chain }, { on := 0, ground := Ground.phase }, { on := 1, ground := Ground.phase }, { on := 2, ground := Ground.phase }, { on := 3, ground := Ground.phase }, { on := 4, ground := Ground.phase }, { on := 5, ground := Ground.phase }, { on := 6, ground := Ground.phase }, { on := 7, ground := Ground.phase }, { on := 8, ground := Ground.phase }, { on := 9, ground := Ground.phase }, { on := 10, ground := Ground.phase }, { on := 11, ground := Ground.phase }, { on := 12, ground := Ground.phase }, { on := 13, ground := Ground.phase }, { on := 14, ground := Ground.phase }, { on := 15, ground := Ground.phase }, { on := 16, ground := Ground.phase }, { on := 17, ground := Ground.phase }, { on := 18, ground := Ground.phase }, { on := 19, ground := Ground.phase }, { on := 20, ground := Ground.phase }, { on := 21, ground := Ground.phase }, { on := 22, ground := Ground.phase }, { on := 23, ground := Ground.phase }, { on := 24, ground := Ground.phase }, { on := 25, ground := Ground.phase }, { on := 26, ground := Ground.phase }, { on := 27, ground := Ground.phase }, { on := 28, ground := Ground.phase }, { on := 29, ground := Ground.phase }, { on := 30, ground := Ground.phase }, { on := 31, ground := Ground.phase }, { on := 32, ground := Ground.phase }, { on := 33, ground := Ground.phase }, { on := 34, ground := Ground.phase }, { on := 35, ground := Ground.phase }, { on := 36, ground := Ground.phase }, { on := 37, ground := Ground.phase }, { on := 38, ground := Ground.phase }, { on := 39, ground := Ground.phase }, { on := 40, ground := Ground.phase }, { on := 41, ground := Ground.phase }, { on := 42, ground := Ground.phase }, { on := 43, ground := Ground.phase }, { on := 44, ground := Ground.phase }, { on := 45, ground := Ground.phase }, { on := 46, ground := Ground.phase }, { on := 47, ground := Ground.phase }, { on := 48, ground := Ground.phase }, { on := 49, ground := Ground.phase }, { on := 50, ground := Ground.phase }, { on := 51, ground := Ground.phase }, { on := 52, ground := Ground.phase }, { on := 53, ground := Ground.phase }, { on := 54, ground := Ground.phase }, { on := 55, ground := Ground.phase }, { on := 56, ground := Ground.phase }, { on := 57, ground := Ground.phase }, { on := 58, ground := Ground.phase }, { on := 59, ground := Ground.phase }], guard := none }) (v := ?v281) rfl rfl (by kernel_rfl) (by kernel_rfl) (by kernel_rfl) (fun _ _ _ h => h) (Or.inl ⟨by rfl, ?hy281⟩) (by assumption) ?rest281
      case hy281 =>
        intro w hSw
        go_simp
        first | done | with_reducible rfl
      try simp only [Act.put, List.setIfInBounds_toArray, List.set_cons_zero, List.set_cons_succ]
      refine wpAnyH_done (by kernel_rfl) ?_ _
      go_wp2_with fail
      go_ret
      refine ⟨rfl, ?_⟩
      exact HFIN.out _ hwd

end Go.Proofs.YtjkhcfdflcndkaaGreat.D
