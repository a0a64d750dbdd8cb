/-
  The document's pager: Commit, where the first Sync fails. No condition beyond the sizes that are named.
-/
import Derived.Test.YtjkhcfdflcndkaaGreatKO24
import Derived.BigQuiet
import Derived.Deep.RegionWith
import Derived.Deep.RegionHeld3
namespace Go.Proofs.YtjkhcfdflcndkaaGreat.D
open Go.RowKit Go.Maps Go.Shelf
set_option linter.unusedVariables false
set_option linter.unusedSimpArgs false

/-- An operation of a drawn region taken first; its slot named. -/
theorem tkH {P : Program} {md : Region.Mode} {ops : Array Oper} {Q : Exit → Act → World → Prop} {S : World → Prop} {i : Nat} {d : Option Nat} {oi : Oper} {v : Value} {fuel : Nat} {listed : Array Bool} {a : Act} {w : World} (hi : ops[i]? = some oi) (hd : oi.dst = d)
    (hs : Region.noSelect ops = true) (hf : Region.free md ops listed i = true) (hr : (Region.ready md ops listed).contains i = true)
    (hQ : ∀ c a w, Q (.panic c) (a.put oi.dst v) w → Q (.panic c) a w) (hy : YieldsIf P ops S oi v a) (hS : S w)
    (h : wpAnyH P md ops Q S fuel (listed.setIfInBounds i true) (a.put d v) w) : wpAnyH P md ops Q S (fuel + 1) listed a w := by
  subst hd
  exact wpAnyH_take hi hs hf hr hQ hy hS h

theorem rmay_ok {P : PSt} {root : Int} {l : List Int} (h : P.mayCommit root l = true) : ∀ i, i < l.length → (P.is (l.getD i 0) && P.used (l.getD i 0)) = true := by
  intro i hi
  unfold PSt.mayCommit setOk at h
  simp only [Bool.and_eq_true] at h
  have := List.all_eq_true.1 h.1.1 (l.getD i 0) (by rw [List.getD_eq_getElem?_getD, List.getElem?_eq_getElem hi]; exact List.getElem_mem hi)
  simpa using this
theorem rmay_root {P : PSt} {n : Nat} {root : Int} {l : List Int} (hP : P.Ok n) (h : P.mayCommit root l = true) : -1 ≤ root ∧ root < P.pages := by
  unfold PSt.mayCommit setOk at h
  simp only [Bool.and_eq_true, Bool.or_eq_true] at h
  have hp := hP.p1
  rcases h.2 with e | e
  · have : root = -1 := by simpa using e
    omega
  · have hm : root ∈ l := by simpa using e
    have := List.all_eq_true.1 h.1.1 root hm
    unfold PSt.is at this
    simp at this
    omega

set_option maxHeartbeats 16000000 in
set_option maxRecDepth 100000 in
theorem rpcommit_go1 (w : World) (q m ub b1 b2 : Nat) (P : PSt) (S : St) (h : RPD w q m ub b1 b2 P S) (hS : S.Ok) (hP : P.Ok S.n) (root fr : Int) (v : Value) (l : List Int) (hv : IntsV w v l) (hd : P.dead = false) (hm : P.mayCommit root l = true) (hf1 : 1 ≤ fr) (hf2 : fr ≤ 1152921504606846976) (hgg : P.gen < 1152921504606846976) (hc1 : S.sync.2 = 2) :
    RCommitC w q m ub b1 b2 P S root fr v l := by
  have HE := hid (show P.commit S root fr l = (P.told 2, S.sync.1, 2) by
    unfold PSt.commit
    rw [if_neg (by simp [hd]), if_neg (by simp [hm]), if_neg (by omega)]
    unfold PSt.goes
    rw [if_pos (by rw [hc1]; decide), hc1])
  have HMAY := hid hm
  have HOK := hid (rmay_ok hm)
  obtain ⟨FR, rfl⟩ : ∃ FR : Nat, fr = FR := ⟨fr.toNat, by omega⟩
  obtain ⟨rp, hrp⟩ : ∃ rp : Nat, root + 1 = rp := ⟨(root + 1).toNat, by have := rmay_root hP hm; omega⟩
  have hrp2 : rp ≤ 4097 := by have := rmay_root hP hm; have := hP.p2; omega
  obtain ⟨K2, hK2⟩ : ∃ K2 : Nat, K2 = (P.gen + 1) % 2 := ⟨_, rfl⟩
  have hk2 : K2 < 2 := by omega
  have hph : ∀ S' : St, P.head S' root (FR : Int) = S'.write (K2 : Int) (headB (P.gen + 1) rp FR) := by
    intro S'
    unfold PSt.head
    rw [hK2, show (root + 1).toNat = rp by omega, Int.toNat_natCast]
  have HHD := hid (fun W : World => rhead_c W (P.gen + 1) rp FR root hrp (by omega) (by omega) (by omega))
  have HSY := hid (fun (W : World) (c1 c2 : Nat) (hA : RA W m c1 c2 S) => show Calls Tryz.prog 56 #[.pointer (some ⟨m, 0, none⟩)] W fun e w' => e = .returned (.int .i64 S.sync.2) ∧ RTurn W m c1 c2 S.sync.1 w' from rsync_c W m c1 c2 S hA hS)
  rw [hc1] at HSY
  obtain ⟨S1, hS1⟩ : ∃ S1, S1 = S.sync.1 := ⟨_, rfl⟩
  rw [← hS1] at HE HSY
  have HD := hid h
  have HV := hid hv
  have HUN := hid (fun W (hf : Fr (fun _ => False) w W) => runlike_c W _ l (hv.stay hf))
  have HIS := hid (fun W (hf : Fr (fun _ => False) w W) k => rpis_c W q m ub P (h.pa.stay hf) k)
  obtain ⟨a, cap, rfl, hlen, _⟩ := hv
  obtain ⟨⟨⟨cap6, h1⟩, hU⟩, hra⟩ := h
  have H1 := hid h1
  have HU := hid hU
  have k7 : w.cell? ⟨q, 7, none⟩ = some (.bool P.dead) := cell_at h1 7
  have hg2 := hP.g2
  unfold RCommitC
  rw [hd] at k7
  have HDD := hid hd
  obtain ⟨n, hn⟩ : ∃ n, n = l.length := ⟨_, rfl⟩
  rw [← hn] at hlen HV HUN ⊢
  have HN := hid hn
  obtain ⟨G, hG⟩ : ∃ G, G = P.gen := ⟨_, rfl⟩
  have HG := hid hG
  rw [← hG] at hg2
  have HP := hid hP
  have HSELF := hid (fun W (hf : Fr (fun _ => False) w W) => RPTurn.self HD.out hf)
  obtain ⟨T0, hT0⟩ : ∃ T0, T0 = decide (root = -1) := ⟨_, rfl⟩
  have dr : (root == -1) = T0 := by rw [hT0]; by_cases e : root = -1 <;> simp [e]
  have HT0 := hid hT0
  have x1 : IntKind.i64.wrap ((G : Int) + 1) = (G : Int) + 1 := by rw [IntKind.wrap_i64]; omega
  have x6 : ((G : Int) + 1) % 2 = (K2 : Int) := by have := hG; omega
  have x7 : Int.tmod ((G : Int) + 1) 2 = (K2 : Int) := by rw [Int.tmod_eq_emod_of_nonneg (by omega)]; exact x6
  have x5 : IntKind.i64.wrap (K2 : Int) = K2 := by rw [IntKind.wrap_i64]; omega
  rw [show ((P.gen + 1 : Nat) : Int) = (G : Int) + 1 by rw [hG]; omega] at HHD
  have d1 : decide ((FR : Int) < 1) = false := decide_eq_false (by omega)
  have d2 : decide (1152921504606846976 < (FR : Int)) = false := decide_eq_false (by omega)
  have d3 : ((G : Int) == 1152921504606846976) = false := by rw [Bool.eq_false_iff]; intro e; simp at e; omega
  clear h1 hU hra hd hS hP hn hG hT0 hm hf1 hf2 hgg hg2 hrp hrp2 hK2 hph hc1 hS1
  go_enter Tryz.func28, Tryz.ntmps28
  go_wp2_with fail
  go_loopw [9, 10] (fun v9 v10 wr => ∃ i : Nat, v9 = .bool (thereTo T0 l root i) ∧ v10 = .int .i64 i ∧ i ≤ n ∧ Hid (okTo P l i) ∧ Hid (Fr (fun _ => False) w wr)) (fun _ v _ => n - (intOf v).toNat)
  case atStart => exact ⟨0, by simp [thereTo], rfl, by omega, hid (fun b hb => absurd hb (by omega)), hid (Fr.refl _ _)⟩
  case round =>
    obtain ⟨i, rfl, rfl, hi, HA, HF⟩ := hrel
    obtain ⟨T, hT⟩ : ∃ T, T = thereTo T0 l root i := ⟨_, rfl⟩
    rw [← hT]
    have HT := hid hT
    clear hT
    by_cases hend : i = n
    · have HAL := hid (all_take (fun i => P.is i && P.used i) l (fun b hb => HA.out b (by have := HN.out; omega)))
      have HTT := hid (show T = (decide (root = -1) || l.contains root) by rw [HT.out, thereTo, HT0.out, hend, HN.out, List.take_length])
      subst hend
      clear HIS
      have hTT : T = true := by
        have := HMAY.out
        unfold PSt.mayCommit at this
        rw [HTT.out]
        simp only [Bool.and_eq_true] at this
        exact this.2
      subst hTT
      go_wp2_with fail
      refine (HUN.out _ HF.out).mono ?_
      rintro e w2 ⟨rfl, hf2⟩
      have HF2 := hid (HF.out.trans hf2 (fun _ _ f => f))
      clear hf2 HUN
      have hnd : decide l.Nodup = true := by
        have := HMAY.out
        unfold PSt.mayCommit setOk at this
        simp only [Bool.and_eq_true] at this
        exact this.1.2
      rw [hnd]
      have HQ := hid (HF2.out.at H1.out (fun f => f))
      have HD2 := hid (HD.out.stay HF2.out)
      have k0 : w2.cell? ⟨q, 0, none⟩ = some (.pointer (some ⟨m, 0, none⟩)) := cell_at HQ.out 0
      have k5 : w2.cell? ⟨q, 5, none⟩ = some (.int .i64 G) := by rw [cell_at HQ.out 5, HG.out]; rfl
      clear hnd k7 dr
      go_wp2_with fail
      refine wp_region_held_drew (S := fun w' => w'.cell? ⟨q, 0, none⟩ = some (.pointer (some ⟨m, 0, none⟩)) ∧ w'.cell? ⟨q, 5, none⟩ = some (.int .i64 G)) (by kernel_rfl) (⟨k0, k5⟩) (fun hHeld => ?_)
      refine tkH (i := 0) (d := some 73) (oi := { dst := some 73, op := Op.move (Operand.tmp 0), type := 33, pos := "ref.go:199", after := #[], guard := none }) (v := ?v1) rfl rfl (by kernel_rfl) (by kernel_rfl) (by kernel_rfl) (fun _ _ _ h => h) (Or.inl ⟨by rfl, ?hy1⟩) (by assumption) ?rest1
      case hy1 =>
        intro w hSw
        go_simp
        first | done | with_reducible rfl
      try simp only [Act.put, List.setIfInBounds_toArray, List.set_cons_zero, List.set_cons_succ]
      refine tkH (i := 1) (d := some 74) (oi := { dst := some 74, op := Op.nilCheck (Operand.tmp 73), type := 0, pos := "ref.go:199", after := #[{ on := 0, ground := Ground.data }], guard := none }) (v := ?v2) rfl rfl (by kernel_rfl) (by kernel_rfl) (by kernel_rfl) (fun _ _ _ h => h) (Or.inl ⟨by rfl, ?hy2⟩) (by assumption) ?rest2
      case hy2 =>
        intro w hSw
        go_simp
        first | done | with_reducible rfl
      try simp only [Act.put, List.setIfInBounds_toArray, List.set_cons_zero, List.set_cons_succ]
      refine tkH (i := 2) (d := some 75) (oi := { dst := some 75, op := Op.fieldAddr 40 (Operand.tmp 74) 0, type := 0, pos := "ref.go:199", after := #[{ on := 1, ground := Ground.data }], guard := none }) (v := ?v3) rfl rfl (by kernel_rfl) (by kernel_rfl) (by kernel_rfl) (fun _ _ _ h => h) (Or.inl ⟨by rfl, ?hy3⟩) (by assumption) ?rest3
      case hy3 =>
        intro w hSw
        go_simp
        first | done | with_reducible rfl
      try simp only [Act.put, List.setIfInBounds_toArray, List.set_cons_zero, List.set_cons_succ]
      refine tkH (i := 3) (d := some 76) (oi := { dst := some 76, op := Op.load 26 (Operand.tmp 75), type := 26, pos := "ref.go:199", after := #[{ on := 2, ground := Ground.data }], guard := none }) (v := ?v4) rfl rfl (by kernel_rfl) (by kernel_rfl) (by kernel_rfl) (fun _ _ _ h => h) (Or.inl ⟨by rfl, ?hy4⟩) (by assumption) ?rest4
      case hy4 =>
        intro w hSw
        go_simp
        first | done | with_reducible rfl
      try simp only [Act.put, List.setIfInBounds_toArray, List.set_cons_zero, List.set_cons_succ]
      refine wpAnyH_ready (rs := [4]) (by kernel_rfl) (by simp) ?_
      refine AllReadyH.cons (o := { dst := some 77, op := Op.call { callee := Callee.value (Operand.func 56), args := #[Operand.tmp 76], argTypes := #[26] }, type := 30, pos := "ref.go:199", after := #[{ on := 3, ground := Ground.data }], guard := none }) rfl (fun K hK => ?_) AllReadyH.nil
      go_simp
      refine (HSY.out _ b1 b2 (RC.stay HD2.out.ra ((Fr.refl _ w2).drew))).mono ?_
      rintro e w3 ⟨rfl, ht3⟩
      obtain ⟨ub3, u3, v3, hd3, hu3, hb3, hc3, hf3⟩ := RPTurn.pre ((Fr.refl _ w2).drew) (RPD.dturn (HD2.out.stay ((Fr.refl _ w2).drew)) ht3)
      obtain ⟨cap3, hq3⟩ := hd3.pa.cells
      have y0 : w3.cell? ⟨q, 0, none⟩ = some (.pointer (some ⟨m, 0, none⟩)) := cell_at hq3 0
      have y5 : w3.cell? ⟨q, 5, none⟩ = some (.int .i64 G) := by rw [cell_at hq3 5, HG.out]; rfl
      go_wp2_with fail
      refine hK.out _ _ (⟨y0, y5⟩) (fun hHeld => ?_)
      clear hK K
      try simp only [Act.put, List.setIfInBounds_toArray, List.set_cons_zero, List.set_cons_succ]
      refine tkH (i := 5) (d := some 78) (oi := { dst := some 78, op := Op.binOp BinOp.neq 30 (Operand.tmp 77) (Operand.const (Value.int IntKind.i64 0)) 30, type := 4, pos := "ref.go:199", after := #[{ on := 4, ground := Ground.data }], guard := none }) (v := ?v6) rfl rfl (by kernel_rfl) (by kernel_rfl) (by kernel_rfl) (fun _ _ _ h => h) (Or.inl ⟨by rfl, ?hy6⟩) (by assumption) ?rest6
      case hy6 =>
        intro w hSw
        go_simp
        first | done | with_reducible rfl
      try simp only [Act.put, List.setIfInBounds_toArray, List.set_cons_zero, List.set_cons_succ]
      refine tkH (i := 6) (d := some 79) (oi := { dst := some 79, op := Op.move (Operand.tmp 78), type := 4, pos := "ref.go:199", after := #[{ on := 5, ground := Ground.data }, { on := 4, ground := Ground.chain }], guard := none }) (v := ?v7) rfl rfl (by kernel_rfl) (by kernel_rfl) (by kernel_rfl) (fun _ _ _ h => h) (Or.inl ⟨by rfl, ?hy7⟩) (by assumption) ?rest7
      case hy7 =>
        intro w hSw
        go_simp
        first | done | with_reducible rfl
      try simp only [Act.put, List.setIfInBounds_toArray, List.set_cons_zero, List.set_cons_succ]
      refine tkH (i := 7) (d := some 80) (oi := { dst := some 80, op := Op.move (Operand.tmp 0), type := 33, pos := "ref.go:199", after := #[{ on := 6, ground := Ground.guard }], guard := some (6, false) }) (v := undef) rfl rfl (by kernel_rfl) (by kernel_rfl) (by kernel_rfl) (fun _ _ _ h => h) (Or.inr ⟨by rfl, rfl⟩) (by assumption) ?_
      try simp only [Act.put, List.setIfInBounds_toArray, List.set_cons_zero, List.set_cons_succ]
      refine tkH (i := 8) (d := some 81) (oi := { dst := some 81, op := Op.nilCheck (Operand.tmp 80), type := 0, pos := "ref.go:199", after := #[{ on := 7, ground := Ground.data }, { on := 6, ground := Ground.guard }], guard := some (6, false) }) (v := undef) rfl rfl (by kernel_rfl) (by kernel_rfl) (by kernel_rfl) (fun _ _ _ h => h) (Or.inr ⟨by rfl, rfl⟩) (by assumption) ?_
      try simp only [Act.put, List.setIfInBounds_toArray, List.set_cons_zero, List.set_cons_succ]
      refine tkH (i := 9) (d := some 82) (oi := { dst := some 82, op := Op.fieldAddr 40 (Operand.tmp 81) 0, type := 0, pos := "ref.go:199", after := #[{ on := 8, ground := Ground.data }, { on := 6, ground := Ground.guard }], guard := some (6, false) }) (v := undef) rfl rfl (by kernel_rfl) (by kernel_rfl) (by kernel_rfl) (fun _ _ _ h => h) (Or.inr ⟨by rfl, rfl⟩) (by assumption) ?_
      try simp only [Act.put, List.setIfInBounds_toArray, List.set_cons_zero, List.set_cons_succ]
      refine tkH (i := 10) (d := some 83) (oi := { dst := some 83, op := Op.load 26 (Operand.tmp 82), type := 26, pos := "ref.go:199", after := #[{ on := 9, ground := Ground.data }, { on := 6, ground := Ground.guard }], guard := some (6, false) }) (v := undef) rfl rfl (by kernel_rfl) (by kernel_rfl) (by kernel_rfl) (fun _ _ _ h => h) (Or.inr ⟨by rfl, rfl⟩) (by assumption) ?_
      try simp only [Act.put, List.setIfInBounds_toArray, List.set_cons_zero, List.set_cons_succ]
      refine tkH (i := 11) (d := some 84) (oi := { dst := some 84, op := Op.move (Operand.tmp 0), type := 33, pos := "ref.go:199", after := #[{ on := 6, ground := Ground.guard }], guard := some (6, false) }) (v := undef) rfl rfl (by kernel_rfl) (by kernel_rfl) (by kernel_rfl) (fun _ _ _ h => h) (Or.inr ⟨by rfl, rfl⟩) (by assumption) ?_
      try simp only [Act.put, List.setIfInBounds_toArray, List.set_cons_zero, List.set_cons_succ]
      refine tkH (i := 12) (d := some 85) (oi := { dst := some 85, op := Op.nilCheck (Operand.tmp 84), type := 0, pos := "ref.go:199", after := #[{ on := 11, ground := Ground.data }, { on := 6, ground := Ground.guard }], guard := some (6, false) }) (v := undef) rfl rfl (by kernel_rfl) (by kernel_rfl) (by kernel_rfl) (fun _ _ _ h => h) (Or.inr ⟨by rfl, rfl⟩) (by assumption) ?_
      try simp only [Act.put, List.setIfInBounds_toArray, List.set_cons_zero, List.set_cons_succ]
      refine tkH (i := 13) (d := some 86) (oi := { dst := some 86, op := Op.fieldAddr 40 (Operand.tmp 85) 5, type := 0, pos := "ref.go:199", after := #[{ on := 12, ground := Ground.data }, { on := 6, ground := Ground.guard }], guard := some (6, false) }) (v := undef) rfl rfl (by kernel_rfl) (by kernel_rfl) (by kernel_rfl) (fun _ _ _ h => h) (Or.inr ⟨by rfl, rfl⟩) (by assumption) ?_
      try simp only [Act.put, List.setIfInBounds_toArray, List.set_cons_zero, List.set_cons_succ]
      refine tkH (i := 14) (d := some 87) (oi := { dst := some 87, op := Op.load 3 (Operand.tmp 86), type := 3, pos := "ref.go:199", after := #[{ on := 13, ground := Ground.data }, { on := 6, ground := Ground.guard }], guard := some (6, false) }) (v := undef) rfl rfl (by kernel_rfl) (by kernel_rfl) (by kernel_rfl) (fun _ _ _ h => h) (Or.inr ⟨by rfl, rfl⟩) (by assumption) ?_
      try simp only [Act.put, List.setIfInBounds_toArray, List.set_cons_zero, List.set_cons_succ]
      refine tkH (i := 15) (d := some 88) (oi := { dst := some 88, op := Op.binOp BinOp.add 3 (Operand.tmp 87) (Operand.const (Value.int IntKind.i64 1)) 3, type := 3, pos := "ref.go:199", after := #[{ on := 14, ground := Ground.data }, { on := 6, ground := Ground.guard }], guard := some (6, false) }) (v := undef) rfl rfl (by kernel_rfl) (by kernel_rfl) (by kernel_rfl) (fun _ _ _ h => h) (Or.inr ⟨by rfl, rfl⟩) (by assumption) ?_
      try simp only [Act.put, List.setIfInBounds_toArray, List.set_cons_zero, List.set_cons_succ]
      refine tkH (i := 16) (d := some 89) (oi := { dst := some 89, op := Op.binOp BinOp.rem 3 (Operand.tmp 88) (Operand.const (Value.int IntKind.i64 2)) 3, type := 3, pos := "ref.go:199", after := #[{ on := 15, ground := Ground.data }, { on := 6, ground := Ground.guard }], guard := some (6, false) }) (v := undef) rfl rfl (by kernel_rfl) (by kernel_rfl) (by kernel_rfl) (fun _ _ _ h => h) (Or.inr ⟨by rfl, rfl⟩) (by assumption) ?_
      try simp only [Act.put, List.setIfInBounds_toArray, List.set_cons_zero, List.set_cons_succ]
      refine tkH (i := 17) (d := some 90) (oi := { dst := some 90, op := Op.move (Operand.tmp 0), type := 33, pos := "ref.go:199", after := #[{ on := 6, ground := Ground.guard }], guard := some (6, false) }) (v := undef) rfl rfl (by kernel_rfl) (by kernel_rfl) (by kernel_rfl) (fun _ _ _ h => h) (Or.inr ⟨by rfl, rfl⟩) (by assumption) ?_
      try simp only [Act.put, List.setIfInBounds_toArray, List.set_cons_zero, List.set_cons_succ]
      refine tkH (i := 18) (d := some 91) (oi := { dst := some 91, op := Op.nilCheck (Operand.tmp 90), type := 0, pos := "ref.go:199", after := #[{ on := 17, ground := Ground.data }, { on := 6, ground := Ground.guard }], guard := some (6, false) }) (v := undef) rfl rfl (by kernel_rfl) (by kernel_rfl) (by kernel_rfl) (fun _ _ _ h => h) (Or.inr ⟨by rfl, rfl⟩) (by assumption) ?_
      try simp only [Act.put, List.setIfInBounds_toArray, List.set_cons_zero, List.set_cons_succ]
      refine tkH (i := 19) (d := some 92) (oi := { dst := some 92, op := Op.fieldAddr 40 (Operand.tmp 91) 5, type := 0, pos := "ref.go:199", after := #[{ on := 18, ground := Ground.data }, { on := 6, ground := Ground.guard }], guard := some (6, false) }) (v := undef) rfl rfl (by kernel_rfl) (by kernel_rfl) (by kernel_rfl) (fun _ _ _ h => h) (Or.inr ⟨by rfl, rfl⟩) (by assumption) ?_
      try simp only [Act.put, List.setIfInBounds_toArray, List.set_cons_zero, List.set_cons_succ]
      refine tkH (i := 20) (d := some 93) (oi := { dst := some 93, op := Op.load 3 (Operand.tmp 92), type := 3, pos := "ref.go:199", after := #[{ on := 19, ground := Ground.data }, { on := 6, ground := Ground.guard }], guard := some (6, false) }) (v := undef) rfl rfl (by kernel_rfl) (by kernel_rfl) (by kernel_rfl) (fun _ _ _ h => h) (Or.inr ⟨by rfl, rfl⟩) (by assumption) ?_
      try simp only [Act.put, List.setIfInBounds_toArray, List.set_cons_zero, List.set_cons_succ]
      refine tkH (i := 21) (d := some 94) (oi := { dst := some 94, op := Op.binOp BinOp.add 3 (Operand.tmp 93) (Operand.const (Value.int IntKind.i64 1)) 3, type := 3, pos := "ref.go:199", after := #[{ on := 20, ground := Ground.data }, { on := 6, ground := Ground.guard }], guard := some (6, false) }) (v := undef) rfl rfl (by kernel_rfl) (by kernel_rfl) (by kernel_rfl) (fun _ _ _ h => h) (Or.inr ⟨by rfl, rfl⟩) (by assumption) ?_
      try simp only [Act.put, List.setIfInBounds_toArray, List.set_cons_zero, List.set_cons_succ]
      refine tkH (i := 22) (d := some 95) (oi := { dst := some 95, op := Op.move (Operand.tmp 1), type := 3, pos := "ref.go:199", after := #[{ on := 6, ground := Ground.guard }], guard := some (6, false) }) (v := undef) rfl rfl (by kernel_rfl) (by kernel_rfl) (by kernel_rfl) (fun _ _ _ h => h) (Or.inr ⟨by rfl, rfl⟩) (by assumption) ?_
      try simp only [Act.put, List.setIfInBounds_toArray, List.set_cons_zero, List.set_cons_succ]
      refine tkH (i := 23) (d := some 96) (oi := { dst := some 96, op := Op.move (Operand.tmp 2), type := 3, pos := "ref.go:199", after := #[{ on := 6, ground := Ground.guard }], guard := some (6, false) }) (v := undef) rfl rfl (by kernel_rfl) (by kernel_rfl) (by kernel_rfl) (fun _ _ _ h => h) (Or.inr ⟨by rfl, rfl⟩) (by assumption) ?_
      try simp only [Act.put, List.setIfInBounds_toArray, List.set_cons_zero, List.set_cons_succ]
      refine tkH (i := 24) (d := some 97) (oi := { dst := some 97, op := Op.call { callee := Callee.value (Operand.func 49), args := #[Operand.tmp 94, Operand.tmp 95, Operand.tmp 96], argTypes := #[3, 3, 3] }, type := 9, pos := "ref.go:199", after := #[{ on := 21, ground := Ground.data }, { on := 22, ground := Ground.data }, { on := 23, ground := Ground.data }, { on := 6, ground := Ground.chain }, { on := 6, ground := Ground.guard }], guard := some (6, false) }) (v := undef) rfl rfl (by kernel_rfl) (by kernel_rfl) (by kernel_rfl) (fun _ _ _ h => h) (Or.inr ⟨by rfl, rfl⟩) (by assumption) ?_
      try simp only [Act.put, List.setIfInBounds_toArray, List.set_cons_zero, List.set_cons_succ]
      refine tkH (i := 25) (d := some 98) (oi := { dst := some 98, op := Op.call { callee := Callee.value (Operand.func 55), args := #[Operand.tmp 83, Operand.tmp 89, Operand.tmp 97], argTypes := #[26, 3, 9] }, type := 30, pos := "ref.go:199", after := #[{ on := 10, ground := Ground.data }, { on := 16, ground := Ground.data }, { on := 24, ground := Ground.data }, { on := 24, ground := Ground.chain }, { on := 6, ground := Ground.guard }], guard := some (6, false) }) (v := undef) rfl rfl (by kernel_rfl) (by kernel_rfl) (by kernel_rfl) (fun _ _ _ h => h) (Or.inr ⟨by rfl, rfl⟩) (by assumption) ?_
      try simp only [Act.put, List.setIfInBounds_toArray, List.set_cons_zero, List.set_cons_succ]
      refine tkH (i := 26) (d := some 99) (oi := { dst := some 99, op := Op.binOp BinOp.neq 30 (Operand.tmp 98) (Operand.const (Value.int IntKind.i64 0)) 30, type := 4, pos := "ref.go:199", after := #[{ on := 25, ground := Ground.data }, { on := 6, ground := Ground.guard }], guard := some (6, false) }) (v := undef) rfl rfl (by kernel_rfl) (by kernel_rfl) (by kernel_rfl) (fun _ _ _ h => h) (Or.inr ⟨by rfl, rfl⟩) (by assumption) ?_
      try simp only [Act.put, List.setIfInBounds_toArray, List.set_cons_zero, List.set_cons_succ]
      refine tkH (i := 27) (d := some 100) (oi := { dst := some 100, op := Op.pick (Operand.tmp 79) (Operand.const (Value.bool true)) (Operand.tmp 99), type := 4, pos := "ref.go:199", after := #[{ on := 6, ground := Ground.data }, { on := 26, ground := Ground.data }], guard := none }) (v := ?v28) rfl rfl (by kernel_rfl) (by kernel_rfl) (by kernel_rfl) (fun _ _ _ h => h) (Or.inl ⟨by rfl, ?hy28⟩) (by assumption) ?rest28
      case hy28 =>
        intro w hSw
        go_simp
        first | done | with_reducible rfl
      try simp only [Act.put, List.setIfInBounds_toArray, List.set_cons_zero, List.set_cons_succ]
      refine tkH (i := 28) (d := some 101) (oi := { dst := some 101, op := Op.move (Operand.tmp 100), type := 4, pos := "ref.go:199", after := #[{ on := 27, ground := Ground.data }, { on := 25, ground := Ground.chain }], guard := none }) (v := ?v29) rfl rfl (by kernel_rfl) (by kernel_rfl) (by kernel_rfl) (fun _ _ _ h => h) (Or.inl ⟨by rfl, ?hy29⟩) (by assumption) ?rest29
      case hy29 =>
        intro w hSw
        go_simp
        first | done | with_reducible rfl
      try simp only [Act.put, List.setIfInBounds_toArray, List.set_cons_zero, List.set_cons_succ]
      refine tkH (i := 29) (d := some 102) (oi := { dst := some 102, op := Op.move (Operand.tmp 0), type := 33, pos := "ref.go:199", after := #[{ on := 28, ground := Ground.guard }], guard := some (28, false) }) (v := undef) rfl rfl (by kernel_rfl) (by kernel_rfl) (by kernel_rfl) (fun _ _ _ h => h) (Or.inr ⟨by rfl, rfl⟩) (by assumption) ?_
      try simp only [Act.put, List.setIfInBounds_toArray, List.set_cons_zero, List.set_cons_succ]
      refine tkH (i := 30) (d := some 103) (oi := { dst := some 103, op := Op.nilCheck (Operand.tmp 102), type := 0, pos := "ref.go:199", after := #[{ on := 29, ground := Ground.data }, { on := 28, ground := Ground.guard }], guard := some (28, false) }) (v := undef) rfl rfl (by kernel_rfl) (by kernel_rfl) (by kernel_rfl) (fun _ _ _ h => h) (Or.inr ⟨by rfl, rfl⟩) (by assumption) ?_
      try simp only [Act.put, List.setIfInBounds_toArray, List.set_cons_zero, List.set_cons_succ]
      refine tkH (i := 31) (d := some 104) (oi := { dst := some 104, op := Op.fieldAddr 40 (Operand.tmp 103) 0, type := 0, pos := "ref.go:199", after := #[{ on := 30, ground := Ground.data }, { on := 28, ground := Ground.guard }], guard := some (28, false) }) (v := undef) rfl rfl (by kernel_rfl) (by kernel_rfl) (by kernel_rfl) (fun _ _ _ h => h) (Or.inr ⟨by rfl, rfl⟩) (by assumption) ?_
      try simp only [Act.put, List.setIfInBounds_toArray, List.set_cons_zero, List.set_cons_succ]
      refine tkH (i := 32) (d := some 105) (oi := { dst := some 105, op := Op.load 26 (Operand.tmp 104), type := 26, pos := "ref.go:199", after := #[{ on := 31, ground := Ground.data }, { on := 28, ground := Ground.guard }], guard := some (28, false) }) (v := undef) rfl rfl (by kernel_rfl) (by kernel_rfl) (by kernel_rfl) (fun _ _ _ h => h) (Or.inr ⟨by rfl, rfl⟩) (by assumption) ?_
      try simp only [Act.put, List.setIfInBounds_toArray, List.set_cons_zero, List.set_cons_succ]
      refine tkH (i := 33) (d := some 106) (oi := { dst := some 106, op := Op.call { callee := Callee.value (Operand.func 56), args := #[Operand.tmp 105], argTypes := #[26] }, type := 30, pos := "ref.go:199", after := #[{ on := 32, ground := Ground.data }, { on := 28, ground := Ground.chain }, { on := 28, ground := Ground.guard }], guard := some (28, false) }) (v := undef) rfl rfl (by kernel_rfl) (by kernel_rfl) (by kernel_rfl) (fun _ _ _ h => h) (Or.inr ⟨by rfl, rfl⟩) (by assumption) ?_
      try simp only [Act.put, List.setIfInBounds_toArray, List.set_cons_zero, List.set_cons_succ]
      refine tkH (i := 34) (d := some 107) (oi := { dst := some 107, op := Op.binOp BinOp.neq 30 (Operand.tmp 106) (Operand.const (Value.int IntKind.i64 0)) 30, type := 4, pos := "ref.go:199", after := #[{ on := 33, ground := Ground.data }, { on := 28, ground := Ground.guard }], guard := some (28, false) }) (v := undef) rfl rfl (by kernel_rfl) (by kernel_rfl) (by kernel_rfl) (fun _ _ _ h => h) (Or.inr ⟨by rfl, rfl⟩) (by assumption) ?_
      try simp only [Act.put, List.setIfInBounds_toArray, List.set_cons_zero, List.set_cons_succ]
      refine tkH (i := 35) (d := some 108) (oi := { dst := some 108, op := Op.pick (Operand.tmp 101) (Operand.const (Value.bool true)) (Operand.tmp 107), type := 4, pos := "ref.go:199", after := #[{ on := 28, ground := Ground.data }, { on := 34, ground := Ground.data }], guard := none }) (v := ?v36) rfl rfl (by kernel_rfl) (by kernel_rfl) (by kernel_rfl) (fun _ _ _ h => h) (Or.inl ⟨by rfl, ?hy36⟩) (by assumption) ?rest36
      case hy36 =>
        intro w hSw
        go_simp
        first | done | with_reducible rfl
      try simp only [Act.put, List.setIfInBounds_toArray, List.set_cons_zero, List.set_cons_succ]
      refine wpAnyH_done (by kernel_rfl) ?_ _
      have f7 : w3.frozen? ⟨q, 7, none⟩ = false := frozen_at hq3 7
      have d7 : w3.cell? ⟨q, 7, none⟩ = some (.bool P.dead) := cell_at hq3 7
      have HTN := hid (RPTurn.pre HF2.out (RPTurn.then hd3 hu3 hb3 hc3 hf3 (RPD.pturn hd3 hd3.pa.die)))
      clear hd3 hu3 hb3 hc3 hf3 hq3 y0 y5 ht3
      go_wp2_with fail
      go_ret
      rw [HE.out]
      exact ⟨rfl, (told2 P).symm ▸ HTN.out⟩
    · have hi' : i < n := by omega
      have hil : i < l.length := by have := HN.out; omega
      obtain ⟨b, o, rfl, hcell⟩ := HV.out.some (by omega)
      have ci := cells_stay2 HF.out (hcell i hi')
      obtain ⟨y, hy⟩ : ∃ y, y = l.getD i 0 := ⟨_, rfl⟩
      rw [← hy] at ci
      have HY := hid hy
      have HI := hid (fun q' => HIS.out (wr.drewN q') (fr_dn HF.out) y)
      have c6 : wr.cell? ⟨q, 6, none⟩ = some (.slice (some ⟨ub, 0, none⟩) P.pages cap6) := cell_at (HF.out.at H1.out (fun f => f)) 6
      obtain ⟨pg, hpg⟩ : ∃ pg, pg = P.pages := ⟨_, rfl⟩
      rw [← hpg] at c6
      clear hcell hend hy HIS HUN
      cases hb : P.is y with
      | false => exact absurd (HOK.out i hil) (by rw [← HY.out, hb]; simp)
      | true =>
        have hyr : 0 ≤ y ∧ y < pg := by unfold PSt.is at hb; rw [← hpg] at hb; simpa using hb
        obtain ⟨J, rfl⟩ : ∃ J : Nat, y = J := ⟨y.toNat, by omega⟩
        have hJ : J < pg := by omega
        have hpg2 : pg ≤ 4096 := by have := HP.out.p2; omega
        have cu := (HU.out.keep HF.out (fun f => f)).cell (i := J) (by omega)
        have hz := useOf_zero P J
        have hvv := useOf_vals P J
        obtain ⟨u, hu⟩ : ∃ u, u = useOf P J := ⟨_, rfl⟩
        rw [← hu] at cu hz hvv
        rw [hb] at HI
        have HB := hid hb
        clear hu hpg hb
        cases hb2 : P.used (J : Int) with
        | false => exact absurd (HOK.out i hil) (by rw [← HY.out, hb2]; simp)
        | true =>
          rw [hb2] at hz
          have hz : (u == 0) = false := hz
          have HA2 := hid (show okTo P l (i + 1) by
            intro b hb'
            by_cases e : b = i
            · rw [e, ← HY.out, HB.out, hb2]; rfl
            · exact HA.out b (by omega))
          have HT2 := hid (show thereTo T0 l root (i + 1) = (T || ((J : Int) == root)) by rw [HT.out, thereTo, thereTo, take_contains l i hil, HY.out, Bool.or_assoc])
          obtain ⟨E, hE⟩ : ∃ E, ((J : Int) == root) = E := ⟨_, rfl⟩
          rw [hE] at HT2
          clear hb2
          go_wp2_with fail
          go_quiet (first | (go_at_call 64; exact Calls.quiet_of_same (HI.out _)))
          cases T with
          | true =>
            go_wp2_with fail
            exact ⟨⟨i + 1, by rw [HT2.out]; rfl, by go_num, by omega, HA2, hid (fr_dn HF.out)⟩, by simp [intOf]; omega⟩
          | false =>
            cases E <;>
            · go_wp2_with fail
              exact ⟨⟨i + 1, by rw [HT2.out]; rfl, by go_num, by omega, HA2, hid (fr_dn HF.out)⟩, by simp [intOf]; omega⟩


end Go.Proofs.YtjkhcfdflcndkaaGreat.D
