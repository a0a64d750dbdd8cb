/-
  The reader reads what stands behind a backslash. No condition beyond the sizes that are named.
-/
import Derived.Test.YtbmfmnkfdfdjbaaGreatDoorL8
namespace Go.Proofs.YtbmfmnkfdfdjbaaGreatDoor.D
open Go.RowKit Go.Shelf
set_option linter.unusedVariables false
set_option linter.unusedSimpArgs false

def sgnB : List UInt8 := [34, 92, 47, 98, 102, 110, 114, 116]
def meanB : List UInt8 := [34, 92, 47, 8, 12, 10, 13, 9]
/-- Four digits of base sixteen come. -/
def hex4 (s : List UInt8) (i : Nat) : Bool := decide (i + 4 ≤ s.length) && (hexB.contains (pk s i) && (hexB.contains (pk s (i + 1)) && (hexB.contains (pk s (i + 2)) && hexB.contains (pk s (i + 3)))))
/-- What an escape says, and its end; none: it is none. -/
def esc (s : List UInt8) (i : Nat) : Option (List UInt8 × Nat) :=
  if s.length ≤ i then none
  else if sgnB.contains (pk s i) then some ([meanB.getD (Lib.indexByte sgnB (pk s i)).toNat 0], i + 1)
  else if pk s i = 117 then (if hex4 s (i + 1) then some (unitL (hexV ((s.drop (i + 1)).take 4)), i + 5) else none)
  else none
def EscPost (w : World) (r : Nat) (s : List UInt8) (i f n : Nat) (x : Ending) (w' : World) : Prop :=
  Fr (· = r) w w' ∧ (∀ l e, esc s i = some (l, e) → x = .returned (.string (bs l)) ∧ RdAt w' r s e f n) ∧ (esc s i = none → x = .panicked (wrongAt f 52))

/-- An operation of a drawn region taken first; its slot named. -/
theorem tkE {P : Program} {md : Region.Mode} {ops : Array Oper} {Q : Exit → Act → World → Prop} {S : World → Prop} {i : Nat} {d : Option Nat} {oi : Oper} {v : Value} {fuel : Nat} {listed : Array Bool} {a : Act} {w : World} (hi : ops[i]? = some oi) (hd : oi.dst = d)
    (hs : Region.noSelect ops = true) (hf : Region.free md ops listed i = true) (hr : (Region.ready md ops listed).contains i = true)
    (hQ : ∀ c a w, Q (.panic c) (a.put oi.dst v) w → Q (.panic c) a w) (hy : YieldsIf P ops S oi v a) (hS : S w)
    (h : wpAnyH P md ops Q S fuel (listed.setIfInBounds i true) (a.put d v) w) : wpAnyH P md ops Q S (fuel + 1) listed a w := by
  subst hd
  exact wpAnyH_take hi hs hf hr hQ hy hS h

set_option maxHeartbeats 1000000 in
set_option maxRecDepth 100000 in
theorem escape_c (w : World) (r : Nat) (s : List UInt8) (i f n : Nat) (h : RdAt w r s i f n) (hi : i ≤ s.length) (hs : s.length ≤ 1048576) :
    Calls Tryz.prog 66 #[.pointer (some ⟨r, 0, none⟩)] w (EscPost w r s i f n) := by
  have H := hid h
  have HS := hid hs
  have hz := size_bs s
  have HPK := hid (peek_c w r s i f n h hs hi 0 (by omega))
  clear h
  go_enter Tryz.func66, Tryz.ntmps66
  go_wp2_with fail
  refine HPK.out.mono ?_
  rintro e w1 ⟨rfl, hf1⟩
  have H1 := hid (H.out.stay hf1)
  have HF1 := hid hf1
  have k0 : w1.cell? ⟨r, 0, none⟩ = some (.string (bs s)) := cell_at H1.out 0
  have k1 : w1.cell? ⟨r, 1, none⟩ = some (.int .i64 i) := cell_at H1.out 1
  obtain ⟨v, hv⟩ : ∃ v : Int, v = ((pk s (i + 0)).toNat : Int) := ⟨_, rfl⟩
  rw [← hv]
  have HV := hid (show v = ((pk s i).toNat : Int) from hv)
  clear hf1 HPK hv
  by_cases hd : i < s.length
  case neg =>
    as_aux_lemma =>
      have HE := hid (show esc s i = none by unfold esc; rw [if_pos (by omega)])
      have hd' : decide ((i : Int) < (s.length : Int)) = false := by simp; omega
      have HMU := hid (fun W (h : RdAt W r s i f n) => must_not W r s i f n h 52)
      go_upto_region 2 with fail
      refine wp_region_held_drew (S := fun w' => w'.cell? ⟨r, 0, none⟩ = some (.string (bs s)) ∧ w'.cell? ⟨r, 1, none⟩ = some (.int .i64 i)) (by kernel_rfl) (⟨k0, k1⟩) (fun hHeld => ?_)
      refine tkE (i := 0) (d := some 12) (oi := { dst := some 12, op := Op.move (Operand.tmp 0), type := 58, pos := "lex.go:134", after := #[], guard := none }) (v := ?v1) rfl rfl (by kernel_rfl) (by kernel_rfl) (by kernel_rfl) (fun _ _ _ h => h) (Or.inl ⟨by rfl, ?hy1⟩) (by assumption) ?rest1
      case hy1 =>
        intro w hSw
        go_simp
        first | done | with_reducible rfl
      try simp only [Act.put, List.setIfInBounds_toArray, List.set_cons_zero, List.set_cons_succ]
      refine tkE (i := 1) (d := some 13) (oi := { dst := some 13, op := Op.move (Operand.tmp 0), type := 58, pos := "lex.go:134", after := #[], guard := none }) (v := ?v2) rfl rfl (by kernel_rfl) (by kernel_rfl) (by kernel_rfl) (fun _ _ _ h => h) (Or.inl ⟨by rfl, ?hy2⟩) (by assumption) ?rest2
      case hy2 =>
        intro w hSw
        go_simp
        first | done | with_reducible rfl
      try simp only [Act.put, List.setIfInBounds_toArray, List.set_cons_zero, List.set_cons_succ]
      refine tkE (i := 2) (d := some 14) (oi := { dst := some 14, op := Op.nilCheck (Operand.tmp 13), type := 0, pos := "lex.go:134", after := #[{ on := 1, ground := Ground.data }], guard := none }) (v := ?v3) rfl rfl (by kernel_rfl) (by kernel_rfl) (by kernel_rfl) (fun _ _ _ h => h) (Or.inl ⟨by rfl, ?hy3⟩) (by assumption) ?rest3
      case hy3 =>
        intro w hSw
        go_simp
        first | done | with_reducible rfl
      try simp only [Act.put, List.setIfInBounds_toArray, List.set_cons_zero, List.set_cons_succ]
      refine tkE (i := 3) (d := some 15) (oi := { dst := some 15, op := Op.fieldAddr 60 (Operand.tmp 14) 1, type := 0, pos := "lex.go:134", after := #[{ on := 2, ground := Ground.data }], guard := none }) (v := ?v4) rfl rfl (by kernel_rfl) (by kernel_rfl) (by kernel_rfl) (fun _ _ _ h => h) (Or.inl ⟨by rfl, ?hy4⟩) (by assumption) ?rest4
      case hy4 =>
        intro w hSw
        go_simp
        first | done | with_reducible rfl
      try simp only [Act.put, List.setIfInBounds_toArray, List.set_cons_zero, List.set_cons_succ]
      refine tkE (i := 4) (d := some 16) (oi := { dst := some 16, op := Op.load 3 (Operand.tmp 15), type := 3, pos := "lex.go:134", after := #[{ on := 3, ground := Ground.data }], guard := none }) (v := ?v5) rfl rfl (by kernel_rfl) (by kernel_rfl) (by kernel_rfl) (fun _ _ _ h => h) (Or.inl ⟨by rfl, ?hy5⟩) (by assumption) ?rest5
      case hy5 =>
        intro w hSw
        go_simp
        first | done | with_reducible rfl
      try simp only [Act.put, List.setIfInBounds_toArray, List.set_cons_zero, List.set_cons_succ]
      refine tkE (i := 5) (d := some 17) (oi := { dst := some 17, op := Op.move (Operand.tmp 0), type := 58, pos := "lex.go:134", after := #[], guard := none }) (v := ?v6) rfl rfl (by kernel_rfl) (by kernel_rfl) (by kernel_rfl) (fun _ _ _ h => h) (Or.inl ⟨by rfl, ?hy6⟩) (by assumption) ?rest6
      case hy6 =>
        intro w hSw
        go_simp
        first | done | with_reducible rfl
      try simp only [Act.put, List.setIfInBounds_toArray, List.set_cons_zero, List.set_cons_succ]
      refine tkE (i := 6) (d := some 18) (oi := { dst := some 18, op := Op.nilCheck (Operand.tmp 17), type := 0, pos := "lex.go:134", after := #[{ on := 5, ground := Ground.data }], guard := none }) (v := ?v7) rfl rfl (by kernel_rfl) (by kernel_rfl) (by kernel_rfl) (fun _ _ _ h => h) (Or.inl ⟨by rfl, ?hy7⟩) (by assumption) ?rest7
      case hy7 =>
        intro w hSw
        go_simp
        first | done | with_reducible rfl
      try simp only [Act.put, List.setIfInBounds_toArray, List.set_cons_zero, List.set_cons_succ]
      refine tkE (i := 7) (d := some 19) (oi := { dst := some 19, op := Op.fieldAddr 60 (Operand.tmp 18) 0, type := 0, pos := "lex.go:134", after := #[{ on := 6, ground := Ground.data }], guard := none }) (v := ?v8) rfl rfl (by kernel_rfl) (by kernel_rfl) (by kernel_rfl) (fun _ _ _ h => h) (Or.inl ⟨by rfl, ?hy8⟩) (by assumption) ?rest8
      case hy8 =>
        intro w hSw
        go_simp
        first | done | with_reducible rfl
      try simp only [Act.put, List.setIfInBounds_toArray, List.set_cons_zero, List.set_cons_succ]
      refine tkE (i := 8) (d := some 20) (oi := { dst := some 20, op := Op.load 9 (Operand.tmp 19), type := 9, pos := "lex.go:134", after := #[{ on := 7, ground := Ground.data }], guard := none }) (v := ?v9) rfl rfl (by kernel_rfl) (by kernel_rfl) (by kernel_rfl) (fun _ _ _ h => h) (Or.inl ⟨by rfl, ?hy9⟩) (by assumption) ?rest9
      case hy9 =>
        intro w hSw
        go_simp
        first | done | with_reducible rfl
      try simp only [Act.put, List.setIfInBounds_toArray, List.set_cons_zero, List.set_cons_succ]
      refine tkE (i := 9) (d := some 21) (oi := { dst := some 21, op := Op.call { callee := Callee.builtin Builtin.len, args := #[Operand.tmp 20], argTypes := #[9] }, type := 3, pos := "lex.go:134", after := #[{ on := 8, ground := Ground.data }], guard := none }) (v := ?v10) rfl rfl (by kernel_rfl) (by kernel_rfl) (by kernel_rfl) (fun _ _ _ h => h) (Or.inl ⟨by rfl, ?hy10⟩) (by assumption) ?rest10
      case hy10 =>
        intro w hSw
        go_simp
        first | done | with_reducible rfl
      try simp only [Act.put, List.setIfInBounds_toArray, List.set_cons_zero, List.set_cons_succ]
      refine tkE (i := 10) (d := some 22) (oi := { dst := some 22, op := Op.binOp BinOp.lss 3 (Operand.tmp 16) (Operand.tmp 21) 3, type := 4, pos := "lex.go:134", after := #[{ on := 4, ground := Ground.data }, { on := 9, ground := Ground.data }], guard := none }) (v := ?v11) rfl rfl (by kernel_rfl) (by kernel_rfl) (by kernel_rfl) (fun _ _ _ h => h) (Or.inl ⟨by rfl, ?hy11⟩) (by assumption) ?rest11
      case hy11 =>
        intro w hSw
        go_simp
        first | done | with_reducible rfl
      try simp only [Act.put, List.setIfInBounds_toArray, List.set_cons_zero, List.set_cons_succ]
      refine wpAnyH_ready (rs := [11]) (by kernel_rfl) (by simp) ?_
      refine AllReadyH.cons (o := { dst := some 23, op := Op.call { callee := Callee.value (Operand.func 51), args := #[Operand.tmp 12, Operand.tmp 22, Operand.const (Value.int IntKind.i64 52)], argTypes := #[58, 4, 26] }, type := 0, pos := "lex.go:134", after := #[{ on := 0, ground := Ground.data }, { on := 10, ground := Ground.data }], guard := none }) rfl (fun K hK => ?_) AllReadyH.nil
      go_simp
      refine (HMU.out _ (RdAt.stay H1.out (Fr.refl (fun _ => False) w1).drew)).mono ?_
      rintro e w' ⟨rfl, hw'⟩
      rw [hw']
      exact ⟨rfl, fr_no (HF1.out.trans (Fr.refl (fun _ => False) w1).drew (fun _ _ f => f)), (fun l e he => by rw [HE.out] at he; cases he), fun _ => rfl⟩
  have HLI := hid (show ¬ s.length ≤ i by omega)
  have hd' : (i : Int) < (s.length : Int) := by omega
  have HMU := hid (fun W (h : RdAt W r s i f n) => must_c W r s i f n h 52)
  go_wp2_with fail
  go_quiet (first | (go_at_call 51; with_reducible exact Calls.quiet_of_same (HMU.out _ (RdAt.stay H1.out (by first | exact fr_drewN | exact fr_dn fr_drewN)))) | (go_at_call 48; with_reducible exact Calls.quiet_of_same (HCI.out _)))
  obtain ⟨w2, hw2⟩ : ∃ w2, w2 = w1.drewN nq := ⟨_, rfl⟩
  rw [← hw2]
  have HF2 := hid (show Fr (fun _ => False) w w2 from HF1.out.trans (hw2 ▸ fr_drewN) (fun _ _ f => f))
  have H2 := hid (H.out.stay HF2.out)
  have k1 : w2.cell? ⟨r, 1, none⟩ = some (.int .i64 i) := cell_at H2.out 1
  have kf : w2.frozen? ⟨r, 1, none⟩ = false := frozen_at H2.out 1
  have H3 := hid (show RdAt (w2.setCell ⟨r, 1, none⟩ (.int .i64 ((i : Int) + 1))) r s (i + 1) f n by have := RdAt.move H2.out (i + 1); simpa using this)
  have HF3 := hid (show Fr (· = r) w (w2.setCell ⟨r, 1, none⟩ (.int .i64 ((i : Int) + 1))) from (fr_no HF2.out).trans (fr_set1 _ r 1 _) (fun _ _ e => e))
  have HC := hid (fun W => ib_c W [34, 92, 47, 98, 102, 110, 114, 116] (pk s i))
  clear hw2 HMU k0
  cases hb : sgnB.contains (pk s i) with
  | true =>
    as_aux_lemma =>
      obtain ⟨m, hm, hml⟩ := ib_in hb
      have HE := hid (show esc s i = some ([meanB.getD m 0], i + 1) by
        unfold esc
        rw [if_neg HLI.out, if_pos hb, hm]
        rfl)
      have HC : Hid (∀ W, Calls Tryz.prog 48 #[.string (bs [34, 92, 47, 98, 102, 110, 114, 116]), .int .u8 v] W fun e w' => e = .returned (.int .i64 m) ∧ w' = W) := HV.out ▸ hm ▸ HC
      have hm7 : m < 8 := by
        have h1 : Lib.indexByte sgnB (pk s i) = (m : Int) := hm
        have h2 : m ≤ 8 := hml
        rcases Nat.lt_or_ge m 8 with h | h
        · exact h
        · exfalso
          have h3 : ∀ x ∈ sgnB, Lib.indexByte sgnB x < 8 := by decide
          have h4 := h3 (pk s i) (by simpa using hb)
          omega
      have sl : ∀ W, (Instr.slice 9 (.string (bs [34, 92, 47, 8, 12, 10, 13, 9])) (some (.int .i64 (m : Int))) (some (.int .i64 ((m : Int) + 1))) none).run Tryz.prog W = .ok (.string (bs [meanB.getD m 0])) W := fun W => by
        rw [slice_str 9 Tryz.underlying9 W [34, 92, 47, 8, 12, 10, 13, 9] (m : Int) ((m : Int) + 1) (by omega) (by omega) (by simp; omega)]
        have : m = 0 ∨ m = 1 ∨ m = 2 ∨ m = 3 ∨ m = 4 ∨ m = 5 ∨ m = 6 ∨ m = 7 := by omega
        rcases this with rfl | rfl | rfl | rfl | rfl | rfl | rfl | rfl <;> rfl
      obtain ⟨L, hL⟩ : ∃ L, L = [meanB.getD m 0] := ⟨_, rfl⟩
      rw [← hL] at HE sl
      have hm0 : (0 : Int) ≤ (m : Int) := by omega
      clear hb hm hml hL
      go_wp2_with fail
      refine (HC.out _).mono ?_
      rintro e w4 ⟨rfl, hw4⟩
      rw [hw4]
      clear hw4
      go_wp2_with fail
      go_ret
      refine ⟨HF3.out, fun l e he => ?_, fun he => (by rw [HE.out] at he; cases he)⟩
      rw [HE.out] at he
      injection he with he
      injection he with e1 e2
      subst e1 e2
      exact ⟨rfl, H3.out⟩
  | false =>
    have HC : Hid (∀ W, Calls Tryz.prog 48 #[.string (bs [34, 92, 47, 98, 102, 110, 114, 116]), .int .u8 v] W fun e w' => e = .returned (.int .i64 (-1)) ∧ w' = W) := HV.out ▸ (ib_out hb : Lib.indexByte [34, 92, 47, 98, 102, 110, 114, 116] (pk s i) = -1) ▸ HC
    have HB := hid hb
    clear hb
    go_wp2_with fail
    refine (HC.out _).mono ?_
    rintro e w4 ⟨rfl, hw4⟩
    rw [hw4]
    clear hw4
    obtain ⟨w3, hw3⟩ : ∃ w3, w3 = w2.setCell ⟨r, 1, none⟩ (.int .i64 ((i : Int) + 1)) := ⟨_, rfl⟩
    rw [← hw3] at H3 HF3 ⊢
    clear hw3 HC
    obtain ⟨a, ha⟩ : ∃ a, a = i + 1 := ⟨_, rfl⟩
    rw [← ha] at H3
    have HA := hid ha
    have ka0 : w3.cell? ⟨r, 0, none⟩ = some (.string (bs s)) := cell_at H3.out 0
    have ka1 : w3.cell? ⟨r, 1, none⟩ = some (.int .i64 a) := cell_at H3.out 1
    have hal : a ≤ s.length := by omega
    by_cases h117 : pk s i = 117
    case neg =>
      as_aux_lemma =>
        have HE := hid (show esc s i = none by
          unfold esc
          rw [if_neg HLI.out, if_neg (by rw [HB.out]; decide), if_neg h117])
        have e1 : (v == 117) = false := by
          have h2 : (pk s i).toNat ≠ 117 := fun e => h117 (UInt8.toNat_inj.1 e)
          have h3 : v = ((pk s i).toNat : Int) := HV.out
          simp
          omega
        have HMU := hid (fun W (h : RdAt W r s a f n) => must_not W r s a f n h 52)
        clear h117 ha
        go_upto_region 7 with fail
        refine wp_region_held_drew (S := fun w' => w'.cell? ⟨r, 0, none⟩ = some (.string (bs s)) ∧ w'.cell? ⟨r, 1, none⟩ = some (.int .i64 a)) (by kernel_rfl) (⟨ka0, ka1⟩) (fun hHeld => ?_)
        refine tkE (i := 0) (d := some 39) (oi := { dst := some 39, op := Op.move (Operand.tmp 0), type := 58, pos := "lex.go:139", after := #[], guard := none }) (v := ?v12) rfl rfl (by kernel_rfl) (by kernel_rfl) (by kernel_rfl) (fun _ _ _ h => h) (Or.inl ⟨by rfl, ?hy12⟩) (by assumption) ?rest12
        case hy12 =>
          intro w hSw
          go_simp
          first | done | with_reducible rfl
        try simp only [Act.put, List.setIfInBounds_toArray, List.set_cons_zero, List.set_cons_succ]
        refine tkE (i := 1) (d := some 40) (oi := { dst := some 40, op := Op.move (Operand.tmp 3), type := 5, pos := "lex.go:139", after := #[], guard := none }) (v := ?v13) rfl rfl (by kernel_rfl) (by kernel_rfl) (by kernel_rfl) (fun _ _ _ h => h) (Or.inl ⟨by rfl, ?hy13⟩) (by assumption) ?rest13
        case hy13 =>
          intro w hSw
          go_simp
          first | done | with_reducible rfl
        try simp only [Act.put, List.setIfInBounds_toArray, List.set_cons_zero, List.set_cons_succ]
        refine tkE (i := 2) (d := some 41) (oi := { dst := some 41, op := Op.binOp BinOp.eql 5 (Operand.tmp 40) (Operand.const (Value.int IntKind.u8 117)) 5, type := 4, pos := "lex.go:139", after := #[{ on := 1, ground := Ground.data }], guard := none }) (v := ?v14) rfl rfl (by kernel_rfl) (by kernel_rfl) (by kernel_rfl) (fun _ _ _ h => h) (Or.inl ⟨by rfl, ?hy14⟩) (by assumption) ?rest14
        case hy14 =>
          intro w hSw
          go_simp
          first | done | with_reducible rfl
        try simp only [Act.put, List.setIfInBounds_toArray, List.set_cons_zero, List.set_cons_succ]
        refine tkE (i := 3) (d := some 42) (oi := { dst := some 42, op := Op.move (Operand.tmp 41), type := 4, pos := "lex.go:139", after := #[{ on := 2, ground := Ground.data }], guard := none }) (v := ?v15) rfl rfl (by kernel_rfl) (by kernel_rfl) (by kernel_rfl) (fun _ _ _ h => h) (Or.inl ⟨by rfl, ?hy15⟩) (by assumption) ?rest15
        case hy15 =>
          intro w hSw
          go_simp
          first | done | with_reducible rfl
        try simp only [Act.put, List.setIfInBounds_toArray, List.set_cons_zero, List.set_cons_succ]
        refine tkE (i := 4) (d := some 43) (oi := { dst := some 43, op := Op.move (Operand.tmp 0), type := 58, pos := "lex.go:139", after := #[{ on := 3, ground := Ground.guard }], guard := some (3, true) }) (v := undef) rfl rfl (by kernel_rfl) (by kernel_rfl) (by kernel_rfl) (fun _ _ _ h => h) (Or.inr ⟨by rfl, rfl⟩) (by assumption) ?_
        try simp only [Act.put, List.setIfInBounds_toArray, List.set_cons_zero, List.set_cons_succ]
        refine tkE (i := 5) (d := some 44) (oi := { dst := some 44, op := Op.nilCheck (Operand.tmp 43), type := 0, pos := "lex.go:139", after := #[{ on := 4, ground := Ground.data }, { on := 3, ground := Ground.guard }], guard := some (3, true) }) (v := undef) rfl rfl (by kernel_rfl) (by kernel_rfl) (by kernel_rfl) (fun _ _ _ h => h) (Or.inr ⟨by rfl, rfl⟩) (by assumption) ?_
        try simp only [Act.put, List.setIfInBounds_toArray, List.set_cons_zero, List.set_cons_succ]
        refine tkE (i := 6) (d := some 45) (oi := { dst := some 45, op := Op.fieldAddr 60 (Operand.tmp 44) 0, type := 0, pos := "lex.go:139", after := #[{ on := 5, ground := Ground.data }, { on := 3, ground := Ground.guard }], guard := some (3, true) }) (v := undef) rfl rfl (by kernel_rfl) (by kernel_rfl) (by kernel_rfl) (fun _ _ _ h => h) (Or.inr ⟨by rfl, rfl⟩) (by assumption) ?_
        try simp only [Act.put, List.setIfInBounds_toArray, List.set_cons_zero, List.set_cons_succ]
        refine tkE (i := 7) (d := some 46) (oi := { dst := some 46, op := Op.load 9 (Operand.tmp 45), type := 9, pos := "lex.go:139", after := #[{ on := 6, ground := Ground.data }, { on := 3, ground := Ground.guard }], guard := some (3, true) }) (v := undef) rfl rfl (by kernel_rfl) (by kernel_rfl) (by kernel_rfl) (fun _ _ _ h => h) (Or.inr ⟨by rfl, rfl⟩) (by assumption) ?_
        try simp only [Act.put, List.setIfInBounds_toArray, List.set_cons_zero, List.set_cons_succ]
        refine tkE (i := 8) (d := some 47) (oi := { dst := some 47, op := Op.call { callee := Callee.builtin Builtin.len, args := #[Operand.tmp 46], argTypes := #[9] }, type := 3, pos := "lex.go:139", after := #[{ on := 7, ground := Ground.data }, { on := 3, ground := Ground.guard }], guard := some (3, true) }) (v := undef) rfl rfl (by kernel_rfl) (by kernel_rfl) (by kernel_rfl) (fun _ _ _ h => h) (Or.inr ⟨by rfl, rfl⟩) (by assumption) ?_
        try simp only [Act.put, List.setIfInBounds_toArray, List.set_cons_zero, List.set_cons_succ]
        refine tkE (i := 9) (d := some 48) (oi := { dst := some 48, op := Op.move (Operand.tmp 0), type := 58, pos := "lex.go:139", after := #[{ on := 3, ground := Ground.guard }], guard := some (3, true) }) (v := undef) rfl rfl (by kernel_rfl) (by kernel_rfl) (by kernel_rfl) (fun _ _ _ h => h) (Or.inr ⟨by rfl, rfl⟩) (by assumption) ?_
        try simp only [Act.put, List.setIfInBounds_toArray, List.set_cons_zero, List.set_cons_succ]
        refine tkE (i := 10) (d := some 49) (oi := { dst := some 49, op := Op.nilCheck (Operand.tmp 48), type := 0, pos := "lex.go:139", after := #[{ on := 9, ground := Ground.data }, { on := 3, ground := Ground.guard }], guard := some (3, true) }) (v := undef) rfl rfl (by kernel_rfl) (by kernel_rfl) (by kernel_rfl) (fun _ _ _ h => h) (Or.inr ⟨by rfl, rfl⟩) (by assumption) ?_
        try simp only [Act.put, List.setIfInBounds_toArray, List.set_cons_zero, List.set_cons_succ]
        refine tkE (i := 11) (d := some 50) (oi := { dst := some 50, op := Op.fieldAddr 60 (Operand.tmp 49) 1, type := 0, pos := "lex.go:139", after := #[{ on := 10, ground := Ground.data }, { on := 3, ground := Ground.guard }], guard := some (3, true) }) (v := undef) rfl rfl (by kernel_rfl) (by kernel_rfl) (by kernel_rfl) (fun _ _ _ h => h) (Or.inr ⟨by rfl, rfl⟩) (by assumption) ?_
        try simp only [Act.put, List.setIfInBounds_toArray, List.set_cons_zero, List.set_cons_succ]
        refine tkE (i := 12) (d := some 51) (oi := { dst := some 51, op := Op.load 3 (Operand.tmp 50), type := 3, pos := "lex.go:139", after := #[{ on := 11, ground := Ground.data }, { on := 3, ground := Ground.guard }], guard := some (3, true) }) (v := undef) rfl rfl (by kernel_rfl) (by kernel_rfl) (by kernel_rfl) (fun _ _ _ h => h) (Or.inr ⟨by rfl, rfl⟩) (by assumption) ?_
        try simp only [Act.put, List.setIfInBounds_toArray, List.set_cons_zero, List.set_cons_succ]
        refine tkE (i := 13) (d := some 52) (oi := { dst := some 52, op := Op.binOp BinOp.sub 3 (Operand.tmp 47) (Operand.tmp 51) 3, type := 3, pos := "lex.go:139", after := #[{ on := 8, ground := Ground.data }, { on := 12, ground := Ground.data }, { on := 3, ground := Ground.guard }], guard := some (3, true) }) (v := undef) rfl rfl (by kernel_rfl) (by kernel_rfl) (by kernel_rfl) (fun _ _ _ h => h) (Or.inr ⟨by rfl, rfl⟩) (by assumption) ?_
        try simp only [Act.put, List.setIfInBounds_toArray, List.set_cons_zero, List.set_cons_succ]
        refine tkE (i := 14) (d := some 53) (oi := { dst := some 53, op := Op.binOp BinOp.geq 3 (Operand.tmp 52) (Operand.const (Value.int IntKind.i64 4)) 3, type := 4, pos := "lex.go:139", after := #[{ on := 13, ground := Ground.data }, { on := 3, ground := Ground.guard }], guard := some (3, true) }) (v := undef) rfl rfl (by kernel_rfl) (by kernel_rfl) (by kernel_rfl) (fun _ _ _ h => h) (Or.inr ⟨by rfl, rfl⟩) (by assumption) ?_
        try simp only [Act.put, List.setIfInBounds_toArray, List.set_cons_zero, List.set_cons_succ]
        refine tkE (i := 15) (d := some 54) (oi := { dst := some 54, op := Op.pick (Operand.tmp 42) (Operand.tmp 53) (Operand.const (Value.bool false)), type := 4, pos := "lex.go:139", after := #[{ on := 3, ground := Ground.data }, { on := 14, ground := Ground.data }], guard := none }) (v := ?v27) rfl rfl (by kernel_rfl) (by kernel_rfl) (by kernel_rfl) (fun _ _ _ h => h) (Or.inl ⟨by rfl, ?hy27⟩) (by assumption) ?rest27
        case hy27 =>
          intro w hSw
          go_simp
          first | done | with_reducible rfl
        try simp only [Act.put, List.setIfInBounds_toArray, List.set_cons_zero, List.set_cons_succ]
        refine wpAnyH_ready (rs := [16]) (by kernel_rfl) (by simp) ?_
        refine AllReadyH.cons (o := { dst := some 55, op := Op.call { callee := Callee.value (Operand.func 51), args := #[Operand.tmp 39, Operand.tmp 54, Operand.const (Value.int IntKind.i64 52)], argTypes := #[58, 4, 26] }, type := 0, pos := "lex.go:139", after := #[{ on := 0, ground := Ground.data }, { on := 15, ground := Ground.data }, { on := 3, ground := Ground.chain }], guard := none }) rfl (fun K hK => ?_) AllReadyH.nil
        go_simp
        refine (HMU.out _ (RdAt.stay H3.out (Fr.refl (fun _ => False) w3).drew)).mono ?_
        rintro e w' ⟨rfl, hw'⟩
        rw [hw']
        exact ⟨rfl, HF3.out.trans (fr_no (S := (· = r)) (Fr.refl (fun _ => False) w3).drew) (fun _ _ e => e), (fun l e he => by rw [HE.out] at he; cases he), fun _ => rfl⟩
    have e1 : (v == 117) = true := by rw [show v = ((pk s i).toNat : Int) from HV.out, h117]; rfl
    have HU := hid h117
    by_cases h4 : a + 4 ≤ s.length
    case neg =>
      as_aux_lemma =>
        have HE := hid (show esc s i = none by
          unfold esc
          rw [if_neg HLI.out, if_neg (by rw [HB.out]; decide), if_pos h117, if_neg]
          unfold hex4
          rw [← ha, decide_eq_false h4]
          simp)
        obtain ⟨Z, hZ⟩ : ∃ Z : Int, Z = (s.length : Int) - (a : Int) := ⟨_, rfl⟩
        have e3 : IntKind.i64.wrap ((s.length : Int) - (a : Int)) = Z := by rw [IntKind.wrap_i64]; omega
        have e2 : decide ((4 : Int) ≤ Z) = false := decide_eq_false (by omega)
        clear hZ h4
        have HMU := hid (fun W (h : RdAt W r s a f n) => must_not W r s a f n h 52)
        clear h117 ha
        go_upto_region 7 with fail
        refine wp_region_held_drew (S := fun w' => w'.cell? ⟨r, 0, none⟩ = some (.string (bs s)) ∧ w'.cell? ⟨r, 1, none⟩ = some (.int .i64 a)) (by kernel_rfl) (⟨ka0, ka1⟩) (fun hHeld => ?_)
        refine tkE (i := 0) (d := some 39) (oi := { dst := some 39, op := Op.move (Operand.tmp 0), type := 58, pos := "lex.go:139", after := #[], guard := none }) (v := ?v28) rfl rfl (by kernel_rfl) (by kernel_rfl) (by kernel_rfl) (fun _ _ _ h => h) (Or.inl ⟨by rfl, ?hy28⟩) (by assumption) ?rest28
        case hy28 =>
          intro w hSw
          go_simp
          first | done | with_reducible rfl
        try simp only [Act.put, List.setIfInBounds_toArray, List.set_cons_zero, List.set_cons_succ]
        refine tkE (i := 1) (d := some 40) (oi := { dst := some 40, op := Op.move (Operand.tmp 3), type := 5, pos := "lex.go:139", after := #[], guard := none }) (v := ?v29) rfl rfl (by kernel_rfl) (by kernel_rfl) (by kernel_rfl) (fun _ _ _ h => h) (Or.inl ⟨by rfl, ?hy29⟩) (by assumption) ?rest29
        case hy29 =>
          intro w hSw
          go_simp
          first | done | with_reducible rfl
        try simp only [Act.put, List.setIfInBounds_toArray, List.set_cons_zero, List.set_cons_succ]
        refine tkE (i := 2) (d := some 41) (oi := { dst := some 41, op := Op.binOp BinOp.eql 5 (Operand.tmp 40) (Operand.const (Value.int IntKind.u8 117)) 5, type := 4, pos := "lex.go:139", after := #[{ on := 1, ground := Ground.data }], guard := none }) (v := ?v30) rfl rfl (by kernel_rfl) (by kernel_rfl) (by kernel_rfl) (fun _ _ _ h => h) (Or.inl ⟨by rfl, ?hy30⟩) (by assumption) ?rest30
        case hy30 =>
          intro w hSw
          go_simp
          first | done | with_reducible rfl
        try simp only [Act.put, List.setIfInBounds_toArray, List.set_cons_zero, List.set_cons_succ]
        refine tkE (i := 3) (d := some 42) (oi := { dst := some 42, op := Op.move (Operand.tmp 41), type := 4, pos := "lex.go:139", after := #[{ on := 2, ground := Ground.data }], guard := none }) (v := ?v31) rfl rfl (by kernel_rfl) (by kernel_rfl) (by kernel_rfl) (fun _ _ _ h => h) (Or.inl ⟨by rfl, ?hy31⟩) (by assumption) ?rest31
        case hy31 =>
          intro w hSw
          go_simp
          first | done | with_reducible rfl
        try simp only [Act.put, List.setIfInBounds_toArray, List.set_cons_zero, List.set_cons_succ]
        refine tkE (i := 4) (d := some 43) (oi := { dst := some 43, op := Op.move (Operand.tmp 0), type := 58, pos := "lex.go:139", after := #[{ on := 3, ground := Ground.guard }], guard := some (3, true) }) (v := ?v32) rfl rfl (by kernel_rfl) (by kernel_rfl) (by kernel_rfl) (fun _ _ _ h => h) (Or.inl ⟨by rfl, ?hy32⟩) (by assumption) ?rest32
        case hy32 =>
          intro w hSw
          go_simp
          first | done | with_reducible rfl
        try simp only [Act.put, List.setIfInBounds_toArray, List.set_cons_zero, List.set_cons_succ]
        refine tkE (i := 5) (d := some 44) (oi := { dst := some 44, op := Op.nilCheck (Operand.tmp 43), type := 0, pos := "lex.go:139", after := #[{ on := 4, ground := Ground.data }, { on := 3, ground := Ground.guard }], guard := some (3, true) }) (v := ?v33) rfl rfl (by kernel_rfl) (by kernel_rfl) (by kernel_rfl) (fun _ _ _ h => h) (Or.inl ⟨by rfl, ?hy33⟩) (by assumption) ?rest33
        case hy33 =>
          intro w hSw
          go_simp
          first | done | with_reducible rfl
        try simp only [Act.put, List.setIfInBounds_toArray, List.set_cons_zero, List.set_cons_succ]
        refine tkE (i := 6) (d := some 45) (oi := { dst := some 45, op := Op.fieldAddr 60 (Operand.tmp 44) 0, type := 0, pos := "lex.go:139", after := #[{ on := 5, ground := Ground.data }, { on := 3, ground := Ground.guard }], guard := some (3, true) }) (v := ?v34) rfl rfl (by kernel_rfl) (by kernel_rfl) (by kernel_rfl) (fun _ _ _ h => h) (Or.inl ⟨by rfl, ?hy34⟩) (by assumption) ?rest34
        case hy34 =>
          intro w hSw
          go_simp
          first | done | with_reducible rfl
        try simp only [Act.put, List.setIfInBounds_toArray, List.set_cons_zero, List.set_cons_succ]
        refine tkE (i := 7) (d := some 46) (oi := { dst := some 46, op := Op.load 9 (Operand.tmp 45), type := 9, pos := "lex.go:139", after := #[{ on := 6, ground := Ground.data }, { on := 3, ground := Ground.guard }], guard := some (3, true) }) (v := ?v35) rfl rfl (by kernel_rfl) (by kernel_rfl) (by kernel_rfl) (fun _ _ _ h => h) (Or.inl ⟨by rfl, ?hy35⟩) (by assumption) ?rest35
        case hy35 =>
          intro w hSw
          go_simp
          first | done | with_reducible rfl
        try simp only [Act.put, List.setIfInBounds_toArray, List.set_cons_zero, List.set_cons_succ]
        refine tkE (i := 8) (d := some 47) (oi := { dst := some 47, op := Op.call { callee := Callee.builtin Builtin.len, args := #[Operand.tmp 46], argTypes := #[9] }, type := 3, pos := "lex.go:139", after := #[{ on := 7, ground := Ground.data }, { on := 3, ground := Ground.guard }], guard := some (3, true) }) (v := ?v36) rfl rfl (by kernel_rfl) (by kernel_rfl) (by kernel_rfl) (fun _ _ _ h => h) (Or.inl ⟨by rfl, ?hy36⟩) (by assumption) ?rest36
        case hy36 =>
          intro w hSw
          go_simp
          first | done | with_reducible rfl
        try simp only [Act.put, List.setIfInBounds_toArray, List.set_cons_zero, List.set_cons_succ]
        refine tkE (i := 9) (d := some 48) (oi := { dst := some 48, op := Op.move (Operand.tmp 0), type := 58, pos := "lex.go:139", after := #[{ on := 3, ground := Ground.guard }], guard := some (3, true) }) (v := ?v37) rfl rfl (by kernel_rfl) (by kernel_rfl) (by kernel_rfl) (fun _ _ _ h => h) (Or.inl ⟨by rfl, ?hy37⟩) (by assumption) ?rest37
        case hy37 =>
          intro w hSw
          go_simp
          first | done | with_reducible rfl
        try simp only [Act.put, List.setIfInBounds_toArray, List.set_cons_zero, List.set_cons_succ]
        refine tkE (i := 10) (d := some 49) (oi := { dst := some 49, op := Op.nilCheck (Operand.tmp 48), type := 0, pos := "lex.go:139", after := #[{ on := 9, ground := Ground.data }, { on := 3, ground := Ground.guard }], guard := some (3, true) }) (v := ?v38) rfl rfl (by kernel_rfl) (by kernel_rfl) (by kernel_rfl) (fun _ _ _ h => h) (Or.inl ⟨by rfl, ?hy38⟩) (by assumption) ?rest38
        case hy38 =>
          intro w hSw
          go_simp
          first | done | with_reducible rfl
        try simp only [Act.put, List.setIfInBounds_toArray, List.set_cons_zero, List.set_cons_succ]
        refine tkE (i := 11) (d := some 50) (oi := { dst := some 50, op := Op.fieldAddr 60 (Operand.tmp 49) 1, type := 0, pos := "lex.go:139", after := #[{ on := 10, ground := Ground.data }, { on := 3, ground := Ground.guard }], guard := some (3, true) }) (v := ?v39) rfl rfl (by kernel_rfl) (by kernel_rfl) (by kernel_rfl) (fun _ _ _ h => h) (Or.inl ⟨by rfl, ?hy39⟩) (by assumption) ?rest39
        case hy39 =>
          intro w hSw
          go_simp
          first | done | with_reducible rfl
        try simp only [Act.put, List.setIfInBounds_toArray, List.set_cons_zero, List.set_cons_succ]
        refine tkE (i := 12) (d := some 51) (oi := { dst := some 51, op := Op.load 3 (Operand.tmp 50), type := 3, pos := "lex.go:139", after := #[{ on := 11, ground := Ground.data }, { on := 3, ground := Ground.guard }], guard := some (3, true) }) (v := ?v40) rfl rfl (by kernel_rfl) (by kernel_rfl) (by kernel_rfl) (fun _ _ _ h => h) (Or.inl ⟨by rfl, ?hy40⟩) (by assumption) ?rest40
        case hy40 =>
          intro w hSw
          go_simp
          first | done | with_reducible rfl
        try simp only [Act.put, List.setIfInBounds_toArray, List.set_cons_zero, List.set_cons_succ]
        refine tkE (i := 13) (d := some 52) (oi := { dst := some 52, op := Op.binOp BinOp.sub 3 (Operand.tmp 47) (Operand.tmp 51) 3, type := 3, pos := "lex.go:139", after := #[{ on := 8, ground := Ground.data }, { on := 12, ground := Ground.data }, { on := 3, ground := Ground.guard }], guard := some (3, true) }) (v := ?v41) rfl rfl (by kernel_rfl) (by kernel_rfl) (by kernel_rfl) (fun _ _ _ h => h) (Or.inl ⟨by rfl, ?hy41⟩) (by assumption) ?rest41
        case hy41 =>
          intro w hSw
          go_simp
          first | done | with_reducible rfl
        try simp only [Act.put, List.setIfInBounds_toArray, List.set_cons_zero, List.set_cons_succ]
        refine tkE (i := 14) (d := some 53) (oi := { dst := some 53, op := Op.binOp BinOp.geq 3 (Operand.tmp 52) (Operand.const (Value.int IntKind.i64 4)) 3, type := 4, pos := "lex.go:139", after := #[{ on := 13, ground := Ground.data }, { on := 3, ground := Ground.guard }], guard := some (3, true) }) (v := ?v42) rfl rfl (by kernel_rfl) (by kernel_rfl) (by kernel_rfl) (fun _ _ _ h => h) (Or.inl ⟨by rfl, ?hy42⟩) (by assumption) ?rest42
        case hy42 =>
          intro w hSw
          go_simp
          first | done | with_reducible rfl
        try simp only [Act.put, List.setIfInBounds_toArray, List.set_cons_zero, List.set_cons_succ]
        refine tkE (i := 15) (d := some 54) (oi := { dst := some 54, op := Op.pick (Operand.tmp 42) (Operand.tmp 53) (Operand.const (Value.bool false)), type := 4, pos := "lex.go:139", after := #[{ on := 3, ground := Ground.data }, { on := 14, ground := Ground.data }], guard := none }) (v := ?v43) rfl rfl (by kernel_rfl) (by kernel_rfl) (by kernel_rfl) (fun _ _ _ h => h) (Or.inl ⟨by rfl, ?hy43⟩) (by assumption) ?rest43
        case hy43 =>
          intro w hSw
          go_simp
          first | done | with_reducible rfl
        try simp only [Act.put, List.setIfInBounds_toArray, List.set_cons_zero, List.set_cons_succ]
        refine wpAnyH_ready (rs := [16]) (by kernel_rfl) (by simp) ?_
        refine AllReadyH.cons (o := { dst := some 55, op := Op.call { callee := Callee.value (Operand.func 51), args := #[Operand.tmp 39, Operand.tmp 54, Operand.const (Value.int IntKind.i64 52)], argTypes := #[58, 4, 26] }, type := 0, pos := "lex.go:139", after := #[{ on := 0, ground := Ground.data }, { on := 15, ground := Ground.data }, { on := 3, ground := Ground.chain }], guard := none }) rfl (fun K hK => ?_) AllReadyH.nil
        go_simp
        refine (HMU.out _ (RdAt.stay H3.out (Fr.refl (fun _ => False) w3).drew)).mono ?_
        rintro e w' ⟨rfl, hw'⟩
        rw [hw']
        exact ⟨rfl, HF3.out.trans (fr_no (S := (· = r)) (Fr.refl (fun _ => False) w3).drew) (fun _ _ e => e), (fun l e he => by rw [HE.out] at he; cases he), fun _ => rfl⟩
    obtain ⟨Z, hZ⟩ : ∃ Z : Int, Z = (s.length : Int) - (a : Int) := ⟨_, rfl⟩
    have e3 : IntKind.i64.wrap ((s.length : Int) - (a : Int)) = Z := by rw [IntKind.wrap_i64]; omega
    have e2 : (4 : Int) ≤ Z := by omega
    clear hZ
    have HMU := hid (fun W (h : RdAt W r s a f n) => must_c W r s a f n h 52)
    have H4L := hid h4
    clear h117 ha
    go_wp2_with fail
    go_quiet (first | (go_at_call 51; with_reducible exact Calls.quiet_of_same (HMU.out _ (RdAt.stay H3.out (by first | exact fr_drewN | exact fr_dn fr_drewN)))) | (go_at_call 48; with_reducible exact Calls.quiet_of_same (HCI.out _)))
    obtain ⟨w4, hw4⟩ : ∃ w4, w4 = w3.drewN nq := ⟨_, rfl⟩
    rw [← hw4]
    have HF4 := hid (show Fr (fun _ => False) w3 w4 from hw4 ▸ fr_drewN)
    clear hw4 HMU ka0 ka1 e1 e2 e3
    go_wp2_with fail
    go_loopw [56] (fun v56 wx => ∃ k : Nat, v56 = .int .i64 k ∧ k ≤ 4 ∧ Hid (∀ j, j < k → hexB.contains (pk s (a + j)) = true) ∧ Hid (Fr (fun _ => False) w3 wx)) (fun v _ => 4 - (intOf v).toNat)
    case atStart => exact ⟨0, rfl, by omega, hid (fun j hj => absurd hj (by omega)), HF4⟩
    case round =>
      obtain ⟨k, rfl, hk, HX, HFw⟩ := hrel
      have HRw := hid (H3.out.stay HFw.out)
      have ka0 : wr.cell? ⟨r, 0, none⟩ = some (.string (bs s)) := cell_at HRw.out 0
      have ka1 : wr.cell? ⟨r, 1, none⟩ = some (.int .i64 a) := cell_at HRw.out 1
      by_cases hend : k = 4
      case neg =>
        have hk4 : k < 4 := by omega
        have hkd : (k : Int) < 4 := by omega
        have e5 : IntKind.i64.wrap ((a : Int) + (k : Int)) = (a : Int) + (k : Int) := by rw [IntKind.wrap_i64]; omega
        obtain ⟨u, hu⟩ : ∃ u : Int, u = ((pk s (a + k)).toNat : Int) := ⟨_, rfl⟩
        have hx : ∀ w, (Instr.index 9 (.string (bs s)) (.int .i64 ((a : Int) + (k : Int)))).run Tryz.prog w = .ok (.int .u8 u) w := fun w => hu ▸ idx_bs _ Tryz.underlying9 w s _ (a + k) (by omega) (by omega)
        have HCI0 := hid (fun W => show Calls Tryz.prog 48 #[.string (bs [48, 49, 50, 51, 52, 53, 54, 55, 56, 57, 97, 98, 99, 100, 101, 102, 65, 66, 67, 68, 69, 70]), .int .u8 u] W fun e w' => e = .returned (.int .i64 (Lib.indexByte hexB (pk s (a + k)))) ∧ w' = W from hu ▸ ib_c W hexB (pk s (a + k)))
        cases hb : hexB.contains (pk s (a + k)) with
        | true =>
          as_aux_lemma =>
            obtain ⟨m, hm, hml⟩ := ib_in hb
            have HCI : Hid (∀ W, Calls Tryz.prog 48 #[.string (bs [48, 49, 50, 51, 52, 53, 54, 55, 56, 57, 97, 98, 99, 100, 101, 102, 65, 66, 67, 68, 69, 70]), .int .u8 u] W fun e w' => e = .returned (.int .i64 m) ∧ w' = W) := hm ▸ HCI0
            have HMU := hid (fun W (h : RdAt W r s a f n) => must_c W r s a f n h 52)
            have HB2 := hid hb
            have hm0 : (0 : Int) ≤ (m : Int) := by omega
            clear hb hm hml hu HCI0
            go_wp2_with fail
            go_quiet (first | (go_at_call 51; with_reducible exact Calls.quiet_of_same (HMU.out _ (RdAt.stay HRw.out (by first | exact fr_drewN | exact fr_dn fr_drewN)))) | (go_at_call 48; with_reducible exact Calls.quiet_of_same (HCI.out _)))
            go_wp2_with fail
            go_roundw
            case measure => simp [intOf]; omega
            refine ⟨k + 1, by go_num, by omega, hid (fun j hj => ?_), hid (HFw.out.trans (by first | exact fr_drewN | exact fr_dn fr_drewN) (fun _ _ f => f))⟩
            rcases Nat.lt_or_ge j k with h | h
            · exact HX.out j h
            · rw [show j = k by omega]
              exact HB2.out
        | false =>
          as_aux_lemma =>
            have HC : Hid (∀ W, Calls Tryz.prog 48 #[.string (bs [48, 49, 50, 51, 52, 53, 54, 55, 56, 57, 97, 98, 99, 100, 101, 102, 65, 66, 67, 68, 69, 70]), .int .u8 u] W fun e w' => e = .returned (.int .i64 (-1)) ∧ w' = W) := ib_out hb ▸ HCI0
            have HMU := hid (fun W (h : RdAt W r s a f n) => must_not W r s a f n h 52)
            have HE := hid (show esc s i = none by
              have h6 : hex4 s (i + 1) = false := by
                rw [← HA.out]
                have hk5 : k = 0 ∨ k = 1 ∨ k = 2 ∨ k = 3 := by omega
                unfold hex4
                rcases hk5 with rfl | rfl | rfl | rfl
                · rw [Nat.add_zero] at hb; rw [hb]; simp
                · rw [hb]; simp
                · rw [hb]; simp
                · rw [hb]; simp
              unfold esc
              rw [if_neg HLI.out, if_neg (by rw [HB.out]; decide), if_pos HU.out, h6]
              rfl)
            clear hb hu HCI0
            go_upto_region 11 with fail
            refine wp_region_held_drew (S := fun w' => w'.cell? ⟨r, 0, none⟩ = some (.string (bs s)) ∧ w'.cell? ⟨r, 1, none⟩ = some (.int .i64 a)) (by kernel_rfl) (⟨ka0, ka1⟩) (fun hHeld => ?_)
            refine tkE (i := 0) (d := some 59) (oi := { dst := some 59, op := Op.move (Operand.tmp 0), type := 58, pos := "lex.go:141", after := #[], guard := none }) (v := ?v44) rfl rfl (by kernel_rfl) (by kernel_rfl) (by kernel_rfl) (fun _ _ _ h => h) (Or.inl ⟨by rfl, ?hy44⟩) (by assumption) ?rest44
            case hy44 =>
              intro w hSw
              go_simp
              first | done | with_reducible rfl
            try simp only [Act.put, List.setIfInBounds_toArray, List.set_cons_zero, List.set_cons_succ]
            refine tkE (i := 1) (d := some 60) (oi := { dst := some 60, op := Op.move (Operand.tmp 0), type := 58, pos := "lex.go:141", after := #[], guard := none }) (v := ?v45) rfl rfl (by kernel_rfl) (by kernel_rfl) (by kernel_rfl) (fun _ _ _ h => h) (Or.inl ⟨by rfl, ?hy45⟩) (by assumption) ?rest45
            case hy45 =>
              intro w hSw
              go_simp
              first | done | with_reducible rfl
            try simp only [Act.put, List.setIfInBounds_toArray, List.set_cons_zero, List.set_cons_succ]
            refine tkE (i := 2) (d := some 61) (oi := { dst := some 61, op := Op.nilCheck (Operand.tmp 60), type := 0, pos := "lex.go:141", after := #[{ on := 1, ground := Ground.data }], guard := none }) (v := ?v46) rfl rfl (by kernel_rfl) (by kernel_rfl) (by kernel_rfl) (fun _ _ _ h => h) (Or.inl ⟨by rfl, ?hy46⟩) (by assumption) ?rest46
            case hy46 =>
              intro w hSw
              go_simp
              first | done | with_reducible rfl
            try simp only [Act.put, List.setIfInBounds_toArray, List.set_cons_zero, List.set_cons_succ]
            refine tkE (i := 3) (d := some 62) (oi := { dst := some 62, op := Op.fieldAddr 60 (Operand.tmp 61) 0, type := 0, pos := "lex.go:141", after := #[{ on := 2, ground := Ground.data }], guard := none }) (v := ?v47) rfl rfl (by kernel_rfl) (by kernel_rfl) (by kernel_rfl) (fun _ _ _ h => h) (Or.inl ⟨by rfl, ?hy47⟩) (by assumption) ?rest47
            case hy47 =>
              intro w hSw
              go_simp
              first | done | with_reducible rfl
            try simp only [Act.put, List.setIfInBounds_toArray, List.set_cons_zero, List.set_cons_succ]
            refine tkE (i := 4) (d := some 63) (oi := { dst := some 63, op := Op.load 9 (Operand.tmp 62), type := 9, pos := "lex.go:141", after := #[{ on := 3, ground := Ground.data }], guard := none }) (v := ?v48) rfl rfl (by kernel_rfl) (by kernel_rfl) (by kernel_rfl) (fun _ _ _ h => h) (Or.inl ⟨by rfl, ?hy48⟩) (by assumption) ?rest48
            case hy48 =>
              intro w hSw
              go_simp
              first | done | with_reducible rfl
            try simp only [Act.put, List.setIfInBounds_toArray, List.set_cons_zero, List.set_cons_succ]
            refine tkE (i := 5) (d := some 64) (oi := { dst := some 64, op := Op.move (Operand.tmp 0), type := 58, pos := "lex.go:141", after := #[], guard := none }) (v := ?v49) rfl rfl (by kernel_rfl) (by kernel_rfl) (by kernel_rfl) (fun _ _ _ h => h) (Or.inl ⟨by rfl, ?hy49⟩) (by assumption) ?rest49
            case hy49 =>
              intro w hSw
              go_simp
              first | done | with_reducible rfl
            try simp only [Act.put, List.setIfInBounds_toArray, List.set_cons_zero, List.set_cons_succ]
            refine tkE (i := 6) (d := some 65) (oi := { dst := some 65, op := Op.nilCheck (Operand.tmp 64), type := 0, pos := "lex.go:141", after := #[{ on := 5, ground := Ground.data }], guard := none }) (v := ?v50) rfl rfl (by kernel_rfl) (by kernel_rfl) (by kernel_rfl) (fun _ _ _ h => h) (Or.inl ⟨by rfl, ?hy50⟩) (by assumption) ?rest50
            case hy50 =>
              intro w hSw
              go_simp
              first | done | with_reducible rfl
            try simp only [Act.put, List.setIfInBounds_toArray, List.set_cons_zero, List.set_cons_succ]
            refine tkE (i := 7) (d := some 66) (oi := { dst := some 66, op := Op.fieldAddr 60 (Operand.tmp 65) 1, type := 0, pos := "lex.go:141", after := #[{ on := 6, ground := Ground.data }], guard := none }) (v := ?v51) rfl rfl (by kernel_rfl) (by kernel_rfl) (by kernel_rfl) (fun _ _ _ h => h) (Or.inl ⟨by rfl, ?hy51⟩) (by assumption) ?rest51
            case hy51 =>
              intro w hSw
              go_simp
              first | done | with_reducible rfl
            try simp only [Act.put, List.setIfInBounds_toArray, List.set_cons_zero, List.set_cons_succ]
            refine tkE (i := 8) (d := some 67) (oi := { dst := some 67, op := Op.load 3 (Operand.tmp 66), type := 3, pos := "lex.go:141", after := #[{ on := 7, ground := Ground.data }], guard := none }) (v := ?v52) rfl rfl (by kernel_rfl) (by kernel_rfl) (by kernel_rfl) (fun _ _ _ h => h) (Or.inl ⟨by rfl, ?hy52⟩) (by assumption) ?rest52
            case hy52 =>
              intro w hSw
              go_simp
              first | done | with_reducible rfl
            try simp only [Act.put, List.setIfInBounds_toArray, List.set_cons_zero, List.set_cons_succ]
            refine tkE (i := 9) (d := some 68) (oi := { dst := some 68, op := Op.move (Operand.tmp 5), type := 3, pos := "lex.go:141", after := #[], guard := none }) (v := ?v53) rfl rfl (by kernel_rfl) (by kernel_rfl) (by kernel_rfl) (fun _ _ _ h => h) (Or.inl ⟨by rfl, ?hy53⟩) (by assumption) ?rest53
            case hy53 =>
              intro w hSw
              go_simp
              first | done | with_reducible rfl
            try simp only [Act.put, List.setIfInBounds_toArray, List.set_cons_zero, List.set_cons_succ]
            refine tkE (i := 10) (d := some 69) (oi := { dst := some 69, op := Op.binOp BinOp.add 3 (Operand.tmp 67) (Operand.tmp 68) 3, type := 3, pos := "lex.go:141", after := #[{ on := 8, ground := Ground.data }, { on := 9, ground := Ground.data }], guard := none }) (v := ?v54) rfl rfl (by kernel_rfl) (by kernel_rfl) (by kernel_rfl) (fun _ _ _ h => h) (Or.inl ⟨by rfl, ?hy54⟩) (by assumption) ?rest54
            case hy54 =>
              intro w hSw
              go_simp
              first | done | with_reducible rfl
            try simp only [Act.put, List.setIfInBounds_toArray, List.set_cons_zero, List.set_cons_succ]
            refine tkE (i := 11) (d := some 70) (oi := { dst := some 70, op := Op.index 9 (Operand.tmp 63) (Operand.tmp 69), type := 5, pos := "lex.go:141", after := #[{ on := 4, ground := Ground.data }, { on := 10, ground := Ground.data }], guard := none }) (v := ?v55) rfl rfl (by kernel_rfl) (by kernel_rfl) (by kernel_rfl) (fun _ _ _ h => h) (Or.inl ⟨by rfl, ?hy55⟩) (by assumption) ?rest55
            case hy55 =>
              intro w hSw
              go_simp
              first | done | with_reducible rfl
            try simp only [Act.put, List.setIfInBounds_toArray, List.set_cons_zero, List.set_cons_succ]
            refine wpAnyH_ready (rs := [12]) (by kernel_rfl) (by simp) ?_
            refine AllReadyH.cons (o := { dst := some 71, op := Op.call { callee := Callee.value (Operand.func 48), args := #[Operand.const (Value.string { data := #[48, 49, 50, 51, 52, 53, 54, 55, 56, 57, 97, 98, 99, 100, 101, 102, 65, 66, 67, 68, 69, 70] }), Operand.tmp 70], argTypes := #[9, 5] }, type := 3, pos := "lex.go:141", after := #[{ on := 11, ground := Ground.data }], guard := none }) rfl (fun K hK => ?_) AllReadyH.nil
            go_simp
            refine (HC.out _).mono ?_
            rintro e w' ⟨rfl, hw'⟩
            rw [hw']
            clear hw'
            go_wp2_with fail
            refine hK.out _ _ (⟨ka0, ka1⟩) (fun hHeld => ?_)
            clear hK K
            try simp only [Act.put, List.setIfInBounds_toArray, List.set_cons_zero, List.set_cons_succ]
            refine tkE (i := 13) (d := some 72) (oi := { dst := some 72, op := Op.binOp BinOp.geq 3 (Operand.tmp 71) (Operand.const (Value.int IntKind.i64 0)) 3, type := 4, pos := "lex.go:141", after := #[{ on := 12, ground := Ground.data }], guard := none }) (v := ?v57) rfl rfl (by kernel_rfl) (by kernel_rfl) (by kernel_rfl) (fun _ _ _ h => h) (Or.inl ⟨by rfl, ?hy57⟩) (by assumption) ?rest57
            case hy57 =>
              intro w hSw
              go_simp
              first | done | with_reducible rfl
            try simp only [Act.put, List.setIfInBounds_toArray, List.set_cons_zero, List.set_cons_succ]
            refine wpAnyH_ready (rs := [14]) (by kernel_rfl) (by simp) ?_
            refine AllReadyH.cons (o := { dst := some 73, op := Op.call { callee := Callee.value (Operand.func 51), args := #[Operand.tmp 59, Operand.tmp 72, Operand.const (Value.int IntKind.i64 52)], argTypes := #[58, 4, 26] }, type := 0, pos := "lex.go:141", after := #[{ on := 0, ground := Ground.data }, { on := 13, ground := Ground.data }, { on := 12, ground := Ground.chain }], guard := none }) rfl (fun K hK => ?_) AllReadyH.nil
            go_simp
            refine (HMU.out _ (RdAt.stay HRw.out (Fr.refl (fun _ => False) wr).drew)).mono ?_
            rintro e w' ⟨rfl, hw'⟩
            rw [hw']
            exact ⟨rfl, (HF3.out.trans (fr_no (S := (· = r)) HFw.out) (fun _ _ e => e)).trans (fr_no (S := (· = r)) (Fr.refl (fun _ => False) wr).drew) (fun _ _ e => e), (fun l e he => by rw [HE.out] at he; cases he), fun _ => rfl⟩
      subst hend
      have hkd : decide (((4 : Nat) : Int) < 4) = false := by decide
      have hlen : ((s.drop a).take 4).length = 4 := by simp; omega
      have hpk : ∀ j, j < 4 → pk ((s.drop a).take 4) j = pk s (a + j) := by
        intro j hj
        unfold pk
        rw [List.getD_eq_getElem?_getD, List.getD_eq_getElem?_getD, List.getElem?_take, if_pos hj, List.getElem?_drop]
      have HPU := hid (fun W => pint_c W ((s.drop a).take 4) (by omega) (by omega) (fun j hj => by rw [hlen] at hj; rw [hpk j hj]; exact HX.out j hj))
      have hV := hexV_lt 4 ((s.drop a).take 4) (by omega) (fun j hj => by rw [hlen] at hj; rw [hpk j hj]; exact HX.out j hj)
      rw [List.take_of_length_le (by omega)] at hV
      have sl : ∀ W, (Instr.slice 9 (.string (bs s)) (some (.int .i64 (a : Int))) (some (.int .i64 ((a : Int) + 4))) none).run Tryz.prog W = .ok (.string (bs ((s.drop a).take 4))) W := fun W => by
        rw [slice_str 9 Tryz.underlying9 W s (a : Int) ((a : Int) + 4) (by omega) (by omega) (by omega)]
        rw [show ((a : Int)).toNat = a by omega, show ((a : Int) + 4).toNat - a = 4 by omega]
      have HE := hid (show esc s i = some (unitL (hexV ((s.drop a).take 4)), a + 4) by
        have h6 : hex4 s (i + 1) = true := by
          rw [← HA.out]
          unfold hex4
          have x0 := HX.out 0 (by omega)
          have x1 := HX.out 1 (by omega)
          have x2 := HX.out 2 (by omega)
          have x3 := HX.out 3 (by omega)
          rw [Nat.add_zero] at x0
          rw [decide_eq_true h4, x0, x1, x2, x3]
          rfl
        unfold esc
        rw [if_neg HLI.out, if_neg (by rw [HB.out]; decide), if_pos HU.out, h6, HA.out]
        rfl)
      obtain ⟨D, hD⟩ : ∃ D, D = (s.drop a).take 4 := ⟨_, rfl⟩
      rw [← hD] at HPU hV sl HE
      obtain ⟨V, hVe⟩ : ∃ V, V = hexV D := ⟨_, rfl⟩
      rw [← hVe] at HPU hV HE
      have hV6 : V < 65536 := by omega
      clear hlen hpk hD hVe hV
      have e6 : IntKind.i64.wrap ((a : Int) + 4) = (a : Int) + 4 := by rw [IntKind.wrap_i64]; omega
      go_upto_region 13 with fail
      go_region_held3 (fun w' => w'.cell? ⟨r, 0, none⟩ = some (.string (bs s)) ∧ w'.cell? ⟨r, 1, none⟩ = some (.int .i64 a) ∧ Fr (fun _ => False) wr w')
        (first | exact ⟨ka0, ka1, (Fr.refl _ _).drew⟩ | exact ⟨cells_stay2 (by assumption) ka0, cells_stay2 (by assumption) ka1, by assumption⟩ | go_keep)
        (first
          | (go_at_call 73; refine (HPU.out _).mono ?_; rintro e w' ⟨rfl, hf'⟩; have hf' := (Fr.refl (fun _ => False) wr).drew.trans hf' (fun _ _ f => f)))
      rename_i hS
      have HFz := hid (HFw.out.trans hS.2.2 (fun _ _ f => f))
      have HRz := hid (H3.out.stay HFz.out)
      have kz1 : w'.cell? ⟨r, 1, none⟩ = some (.int .i64 a) := cell_at HRz.out 1
      have kzf : w'.frozen? ⟨r, 1, none⟩ = false := frozen_at HRz.out 1
      have HM := hid (show RdAt (w'.setCell ⟨r, 1, none⟩ (.int .i64 ((a : Int) + 4))) r s (a + 4) f n by have := RdAt.move HRz.out (a + 4); simpa using this)
      have HFm := hid (show Fr (· = r) w (w'.setCell ⟨r, 1, none⟩ (.int .i64 ((a : Int) + 4))) from (HF3.out.trans (fr_no HFz.out) (fun _ _ e => e)).trans (fr_set1 _ r 1 _) (fun _ _ e => e))
      have HPC := hid (put_c (w'.setCell ⟨r, 1, none⟩ (.int .i64 ((a : Int) + 4))) V hV6)
      have hn4 : ¬ (4 : Nat) < 4 := by omega
      clear hS ka0 ka1
      go_wp2_with fail
      refine HPC.out.mono ?_
      rintro e w8 ⟨rfl, hw8⟩
      rw [hw8]
      clear hw8 HPC
      cases hsu : isSur V with
      | false =>
        obtain ⟨L, hL⟩ : ∃ L, L = unitL V := ⟨_, rfl⟩
        rw [← hL] at HE ⊢
        clear hsu hL
        go_wp2_with fail
        go_ret
        refine ⟨HFm.out, fun l e he => ?_, fun he => (by rw [HE.out] at he; cases he)⟩
        rw [HE.out] at he
        injection he with he
        injection he with e1 e2
        subst e1 e2
        exact ⟨rfl, HM.out⟩
      | true =>
        have H3C := hid (three_c (w'.setCell ⟨r, 1, none⟩ (.int .i64 ((a : Int) + 4))) V hV6 hsu)
        clear hsu
        go_wp2_with fail
        refine H3C.out.mono ?_
        rintro e w9 ⟨rfl, hf9⟩
        have HF9 := hid hf9
        clear hf9
        obtain ⟨L, hL⟩ : ∃ L, L = unitL V := ⟨_, rfl⟩
        rw [← hL] at HE ⊢
        clear hL
        go_wp2_with fail
        go_ret
        refine ⟨HFm.out.trans (fr_no HF9.out) (fun _ _ e => e), fun l e he => ?_, fun he => (by rw [HE.out] at he; cases he)⟩
        rw [HE.out] at he
        injection he with he
        injection he with e1 e2
        subst e1 e2
        exact ⟨rfl, HM.out.stay HF9.out⟩

end Go.Proofs.YtbmfmnkfdfdjbaaGreatDoor.D
