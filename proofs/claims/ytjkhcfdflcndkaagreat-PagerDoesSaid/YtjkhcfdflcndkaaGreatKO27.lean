/-
  The document's pager: Commit, where the last Sync fails. No condition beyond the sizes that are named.
-/
import Derived.Test.YtjkhcfdflcndkaaGreatKO26
import Derived.BigQuiet
import Derived.Deep.RegionWith
import Derived.Deep.RegionHeld3
namespace Go.Proofs.YtjkhcfdflcndkaaGreat.D
open Go.RowKit Go.Maps Go.Shelf
set_option linter.unusedVariables false
set_option linter.unusedSimpArgs false

set_option maxHeartbeats 16000000 in
set_option maxRecDepth 100000 in
theorem rpcommit_go3 (w : World) (q m ub b1 b2 : Nat) (P : PSt) (S : St) (h : RPD w q m ub b1 b2 P S) (hS : S.Ok) (hP : P.Ok S.n) (root fr : Int) (v : Value) (l : List Int) (hv : IntsV w v l) (hd : P.dead = false) (hm : P.mayCommit root l = true) (hf1 : 1 ≤ fr) (hf2 : fr ≤ 1152921504606846976) (hgg : P.gen < 1152921504606846976) (hc1 : S.sync.2 = 0) (hc2 : (P.head S.sync.1 root fr).2 = 0) (hc3 : (P.head S.sync.1 root fr).1.sync.2 = 2) :
    RCommitC w q m ub b1 b2 P S root fr v l := by
  have HE := hid (show P.commit S root fr l = (P.told 2, (P.head S.sync.1 root fr).1.sync.1, 2) by
    unfold PSt.commit
    rw [if_neg (by simp [hd]), if_neg (by simp [hm]), if_neg (by omega)]
    unfold PSt.goes
    rw [if_neg (by simp [hc1]), if_neg (by simp [hc2]), if_pos (by rw [hc3]; decide), hc3])
  have HMAY := hid hm
  have HOK := hid (rmay_ok hm)
  obtain ⟨FR, rfl⟩ : ∃ FR : Nat, fr = FR := ⟨fr.toNat, by omega⟩
  obtain ⟨rp, hrp⟩ : ∃ rp : Nat, root + 1 = rp := ⟨(root + 1).toNat, by have := rmay_root hP hm; omega⟩
  have hrp2 : rp ≤ 4097 := by have := rmay_root hP hm; have := hP.p2; omega
  obtain ⟨K2, hK2⟩ : ∃ K2 : Nat, K2 = (P.gen + 1) % 2 := ⟨_, rfl⟩
  have hk2 : K2 < 2 := by omega
  have hph : ∀ S' : St, P.head S' root (FR : Int) = S'.write (K2 : Int) (headB (P.gen + 1) rp FR) := by
    intro S'
    unfold PSt.head
    rw [hK2, show (root + 1).toNat = rp by omega, Int.toNat_natCast]
  have HHD := hid (fun W : World => rhead_c W (P.gen + 1) rp FR root hrp (by omega) (by omega) (by omega))
  have HSY := hid (fun (W : World) (c1 c2 : Nat) (hA : RA W m c1 c2 S) => show Calls Tryz.prog 56 #[.pointer (some ⟨m, 0, none⟩)] W fun e w' => e = .returned (.int .i64 S.sync.2) ∧ RTurn W m c1 c2 S.sync.1 w' from rsync_c W m c1 c2 S hA hS)
  rw [hc1] at HSY
  obtain ⟨S1, hS1⟩ : ∃ S1, S1 = S.sync.1 := ⟨_, rfl⟩
  have hso1 : S1.Ok := hS1 ▸ (sync_ok hS).1
  rw [← hS1] at hc2 HE HSY
  have HWR := hid (fun (W : World) (c1 c2 : Nat) (hA : RA W m c1 c2 S1) => show Calls Tryz.prog 55 #[.pointer (some ⟨m, 0, none⟩), .int .i64 (K2 : Int), .string (bs (headB (P.gen + 1) rp FR))] W fun e w' => e = .returned (.int .i64 (P.head S1 root (FR : Int)).2) ∧ RTurn W m c1 c2 (P.head S1 root (FR : Int)).1 w' from hph S1 ▸
    rwrite_c W m c1 c2 S1 hA hso1 (K2 : Int) (by omega) (by omega) _ (by rw [headB_len]; decide))
  rw [hc2] at HWR
  have hso2 : (P.head S1 root (FR : Int)).1.Ok := by rw [hph]; exact (write_ok hso1 _ _).1
  rw [← hS1] at hc3
  have HSY2 := hid (fun (W : World) (c1 c2 : Nat) (hA : RA W m c1 c2 (P.head S1 root (FR : Int)).1) => show Calls Tryz.prog 56 #[.pointer (some ⟨m, 0, none⟩)] W fun e w' => e = .returned (.int .i64 (P.head S1 root (FR : Int)).1.sync.2) ∧ RTurn W m c1 c2 (P.head S1 root (FR : Int)).1.sync.1 w' from rsync_c W m c1 c2 _ hA hso2)
  rw [hc3] at HSY2
  obtain ⟨S3, hS3⟩ : ∃ S3, S3 = (P.head S1 root (FR : Int)).1.sync.1 := ⟨_, rfl⟩
  rw [← hS3] at HSY2 HE
  obtain ⟨S2, hS2⟩ : ∃ S2, S2 = (P.head S1 root (FR : Int)).1 := ⟨_, rfl⟩
  rw [← hS2] at HWR HSY2
  obtain ⟨H, hH⟩ : ∃ H, H = headB (P.gen + 1) rp FR := ⟨_, rfl⟩
  rw [← hH] at HWR HHD
  have HD := hid h
  have HV := hid hv
  have HUN := hid (fun W (hf : Fr (fun _ => False) w W) => runlike_c W _ l (hv.stay hf))
  have HIS := hid (fun W (hf : Fr (fun _ => False) w W) k => rpis_c W q m ub P (h.pa.stay hf) k)
  obtain ⟨a, cap, rfl, hlen, _⟩ := hv
  obtain ⟨⟨⟨cap6, h1⟩, hU⟩, hra⟩ := h
  have H1 := hid h1
  have HU := hid hU
  have k7 : w.cell? ⟨q, 7, none⟩ = some (.bool P.dead) := cell_at h1 7
  have hg2 := hP.g2
  unfold RCommitC
  rw [hd] at k7
  have HDD := hid hd
  obtain ⟨n, hn⟩ : ∃ n, n = l.length := ⟨_, rfl⟩
  rw [← hn] at hlen HV HUN ⊢
  have HN := hid hn
  obtain ⟨G, hG⟩ : ∃ G, G = P.gen := ⟨_, rfl⟩
  have HG := hid hG
  rw [← hG] at hg2
  have HP := hid hP
  have HSELF := hid (fun W (hf : Fr (fun _ => False) w W) => RPTurn.self HD.out hf)
  obtain ⟨T0, hT0⟩ : ∃ T0, T0 = decide (root = -1) := ⟨_, rfl⟩
  have dr : (root == -1) = T0 := by rw [hT0]; by_cases e : root = -1 <;> simp [e]
  have HT0 := hid hT0
  have x1 : IntKind.i64.wrap ((G : Int) + 1) = (G : Int) + 1 := by rw [IntKind.wrap_i64]; omega
  have x6 : ((G : Int) + 1) % 2 = (K2 : Int) := by have := hG; omega
  have x7 : Int.tmod ((G : Int) + 1) 2 = (K2 : Int) := by rw [Int.tmod_eq_emod_of_nonneg (by omega)]; exact x6
  have x5 : IntKind.i64.wrap (K2 : Int) = K2 := by rw [IntKind.wrap_i64]; omega
  rw [show ((P.gen + 1 : Nat) : Int) = (G : Int) + 1 by rw [hG]; omega] at HHD
  have d1 : decide ((FR : Int) < 1) = false := decide_eq_false (by omega)
  have d2 : decide (1152921504606846976 < (FR : Int)) = false := decide_eq_false (by omega)
  have d3 : ((G : Int) == 1152921504606846976) = false := by rw [Bool.eq_false_iff]; intro e; simp at e; omega
  clear h1 hU hra hd hS hP hn hG hT0 hm hf1 hf2 hgg hg2 hrp hrp2 hK2 hph hc1 hc2 hc3 hS1 hso1 hso2 hS2 hS3 hH
  go_enter Tryz.func28, Tryz.ntmps28
  go_wp2_with fail
  go_loopw [9, 10] (fun v9 v10 wr => ∃ i : Nat, v9 = .bool (thereTo T0 l root i) ∧ v10 = .int .i64 i ∧ i ≤ n ∧ Hid (okTo P l i) ∧ Hid (Fr (fun _ => False) w wr)) (fun _ v _ => n - (intOf v).toNat)
  case atStart => exact ⟨0, by simp [thereTo], rfl, by omega, hid (fun b hb => absurd hb (by omega)), hid (Fr.refl _ _)⟩
  case round =>
    obtain ⟨i, rfl, rfl, hi, HA, HF⟩ := hrel
    obtain ⟨T, hT⟩ : ∃ T, T = thereTo T0 l root i := ⟨_, rfl⟩
    rw [← hT]
    have HT := hid hT
    clear hT
    by_cases hend : i = n
    · have HAL := hid (all_take (fun i => P.is i && P.used i) l (fun b hb => HA.out b (by have := HN.out; omega)))
      have HTT := hid (show T = (decide (root = -1) || l.contains root) by rw [HT.out, thereTo, HT0.out, hend, HN.out, List.take_length])
      subst hend
      clear HIS
      have hTT : T = true := by
        have := HMAY.out
        unfold PSt.mayCommit at this
        rw [HTT.out]
        simp only [Bool.and_eq_true] at this
        exact this.2
      subst hTT
      go_wp2_with fail
      refine (HUN.out _ HF.out).mono ?_
      rintro e w2 ⟨rfl, hf2⟩
      have HF2 := hid (HF.out.trans hf2 (fun _ _ f => f))
      clear hf2 HUN
      have hnd : decide l.Nodup = true := by
        have := HMAY.out
        unfold PSt.mayCommit setOk at this
        simp only [Bool.and_eq_true] at this
        exact this.1.2
      rw [hnd]
      have HQ := hid (HF2.out.at H1.out (fun f => f))
      have HD2 := hid (HD.out.stay HF2.out)
      have k0 : w2.cell? ⟨q, 0, none⟩ = some (.pointer (some ⟨m, 0, none⟩)) := cell_at HQ.out 0
      have k5 : w2.cell? ⟨q, 5, none⟩ = some (.int .i64 G) := by rw [cell_at HQ.out 5, HG.out]; rfl
      clear hnd k7 dr
      go_wp2_with fail
      refine wp_region_held_drew (S := fun w' => w'.cell? ⟨q, 0, none⟩ = some (.pointer (some ⟨m, 0, none⟩)) ∧ w'.cell? ⟨q, 5, none⟩ = some (.int .i64 G)) (by kernel_rfl) (⟨k0, k5⟩) (fun hHeld => ?_)
      refine tkH (i := 0) (d := some 73) (oi := { dst := some 73, op := Op.move (Operand.tmp 0), type := 33, pos := "ref.go:199", after := #[], guard := none }) (v := ?v73) rfl rfl (by kernel_rfl) (by kernel_rfl) (by kernel_rfl) (fun _ _ _ h => h) (Or.inl ⟨by rfl, ?hy73⟩) (by assumption) ?rest73
      case hy73 =>
        intro w hSw
        go_simp
        first | done | with_reducible rfl
      try simp only [Act.put, List.setIfInBounds_toArray, List.set_cons_zero, List.set_cons_succ]
      refine tkH (i := 1) (d := some 74) (oi := { dst := some 74, op := Op.nilCheck (Operand.tmp 73), type := 0, pos := "ref.go:199", after := #[{ on := 0, ground := Ground.data }], guard := none }) (v := ?v74) rfl rfl (by kernel_rfl) (by kernel_rfl) (by kernel_rfl) (fun _ _ _ h => h) (Or.inl ⟨by rfl, ?hy74⟩) (by assumption) ?rest74
      case hy74 =>
        intro w hSw
        go_simp
        first | done | with_reducible rfl
      try simp only [Act.put, List.setIfInBounds_toArray, List.set_cons_zero, List.set_cons_succ]
      refine tkH (i := 2) (d := some 75) (oi := { dst := some 75, op := Op.fieldAddr 40 (Operand.tmp 74) 0, type := 0, pos := "ref.go:199", after := #[{ on := 1, ground := Ground.data }], guard := none }) (v := ?v75) rfl rfl (by kernel_rfl) (by kernel_rfl) (by kernel_rfl) (fun _ _ _ h => h) (Or.inl ⟨by rfl, ?hy75⟩) (by assumption) ?rest75
      case hy75 =>
        intro w hSw
        go_simp
        first | done | with_reducible rfl
      try simp only [Act.put, List.setIfInBounds_toArray, List.set_cons_zero, List.set_cons_succ]
      refine tkH (i := 3) (d := some 76) (oi := { dst := some 76, op := Op.load 26 (Operand.tmp 75), type := 26, pos := "ref.go:199", after := #[{ on := 2, ground := Ground.data }], guard := none }) (v := ?v76) rfl rfl (by kernel_rfl) (by kernel_rfl) (by kernel_rfl) (fun _ _ _ h => h) (Or.inl ⟨by rfl, ?hy76⟩) (by assumption) ?rest76
      case hy76 =>
        intro w hSw
        go_simp
        first | done | with_reducible rfl
      try simp only [Act.put, List.setIfInBounds_toArray, List.set_cons_zero, List.set_cons_succ]
      refine wpAnyH_ready (rs := [4]) (by kernel_rfl) (by simp) ?_
      refine AllReadyH.cons (o := { dst := some 77, op := Op.call { callee := Callee.value (Operand.func 56), args := #[Operand.tmp 76], argTypes := #[26] }, type := 30, pos := "ref.go:199", after := #[{ on := 3, ground := Ground.data }], guard := none }) rfl (fun K hK => ?_) AllReadyH.nil
      go_simp
      refine (HSY.out _ b1 b2 (RC.stay HD2.out.ra ((Fr.refl _ w2).drew))).mono ?_
      rintro e w3 ⟨rfl, ht3⟩
      obtain ⟨ub3, u3, v3, hd3, hu3, hb3, hc3, hf3⟩ := RPTurn.pre ((Fr.refl _ w2).drew) (RPD.dturn (HD2.out.stay ((Fr.refl _ w2).drew)) ht3)
      obtain ⟨cap3, hq3⟩ := hd3.pa.cells
      have y0 : w3.cell? ⟨q, 0, none⟩ = some (.pointer (some ⟨m, 0, none⟩)) := cell_at hq3 0
      have y5 : w3.cell? ⟨q, 5, none⟩ = some (.int .i64 G) := by rw [cell_at hq3 5, HG.out]; rfl
      go_wp2_with fail
      refine hK.out _ _ (⟨y0, y5⟩) (fun hHeld => ?_)
      clear hK K
      try simp only [Act.put, List.setIfInBounds_toArray, List.set_cons_zero, List.set_cons_succ]
      refine tkH (i := 5) (d := some 78) (oi := { dst := some 78, op := Op.binOp BinOp.neq 30 (Operand.tmp 77) (Operand.const (Value.int IntKind.i64 0)) 30, type := 4, pos := "ref.go:199", after := #[{ on := 4, ground := Ground.data }], guard := none }) (v := ?v78) rfl rfl (by kernel_rfl) (by kernel_rfl) (by kernel_rfl) (fun _ _ _ h => h) (Or.inl ⟨by rfl, ?hy78⟩) (by assumption) ?rest78
      case hy78 =>
        intro w hSw
        go_simp
        first | done | with_reducible rfl
      try simp only [Act.put, List.setIfInBounds_toArray, List.set_cons_zero, List.set_cons_succ]
      refine tkH (i := 6) (d := some 79) (oi := { dst := some 79, op := Op.move (Operand.tmp 78), type := 4, pos := "ref.go:199", after := #[{ on := 5, ground := Ground.data }, { on := 4, ground := Ground.chain }], guard := none }) (v := ?v79) rfl rfl (by kernel_rfl) (by kernel_rfl) (by kernel_rfl) (fun _ _ _ h => h) (Or.inl ⟨by rfl, ?hy79⟩) (by assumption) ?rest79
      case hy79 =>
        intro w hSw
        go_simp
        first | done | with_reducible rfl
      try simp only [Act.put, List.setIfInBounds_toArray, List.set_cons_zero, List.set_cons_succ]
      refine tkH (i := 7) (d := some 80) (oi := { dst := some 80, op := Op.move (Operand.tmp 0), type := 33, pos := "ref.go:199", after := #[{ on := 6, ground := Ground.guard }], guard := some (6, false) }) (v := ?v80) rfl rfl (by kernel_rfl) (by kernel_rfl) (by kernel_rfl) (fun _ _ _ h => h) (Or.inl ⟨by rfl, ?hy80⟩) (by assumption) ?rest80
      case hy80 =>
        intro w hSw
        go_simp
        first | done | with_reducible rfl
      try simp only [Act.put, List.setIfInBounds_toArray, List.set_cons_zero, List.set_cons_succ]
      refine tkH (i := 8) (d := some 81) (oi := { dst := some 81, op := Op.nilCheck (Operand.tmp 80), type := 0, pos := "ref.go:199", after := #[{ on := 7, ground := Ground.data }, { on := 6, ground := Ground.guard }], guard := some (6, false) }) (v := ?v81) rfl rfl (by kernel_rfl) (by kernel_rfl) (by kernel_rfl) (fun _ _ _ h => h) (Or.inl ⟨by rfl, ?hy81⟩) (by assumption) ?rest81
      case hy81 =>
        intro w hSw
        go_simp
        first | done | with_reducible rfl
      try simp only [Act.put, List.setIfInBounds_toArray, List.set_cons_zero, List.set_cons_succ]
      refine tkH (i := 9) (d := some 82) (oi := { dst := some 82, op := Op.fieldAddr 40 (Operand.tmp 81) 0, type := 0, pos := "ref.go:199", after := #[{ on := 8, ground := Ground.data }, { on := 6, ground := Ground.guard }], guard := some (6, false) }) (v := ?v82) rfl rfl (by kernel_rfl) (by kernel_rfl) (by kernel_rfl) (fun _ _ _ h => h) (Or.inl ⟨by rfl, ?hy82⟩) (by assumption) ?rest82
      case hy82 =>
        intro w hSw
        go_simp
        first | done | with_reducible rfl
      try simp only [Act.put, List.setIfInBounds_toArray, List.set_cons_zero, List.set_cons_succ]
      refine tkH (i := 10) (d := some 83) (oi := { dst := some 83, op := Op.load 26 (Operand.tmp 82), type := 26, pos := "ref.go:199", after := #[{ on := 9, ground := Ground.data }, { on := 6, ground := Ground.guard }], guard := some (6, false) }) (v := ?v83) rfl rfl (by kernel_rfl) (by kernel_rfl) (by kernel_rfl) (fun _ _ _ h => h) (Or.inl ⟨by rfl, ?hy83⟩) (by assumption) ?rest83
      case hy83 =>
        intro w hSw
        go_simp
        first | done | with_reducible rfl
      try simp only [Act.put, List.setIfInBounds_toArray, List.set_cons_zero, List.set_cons_succ]
      refine tkH (i := 11) (d := some 84) (oi := { dst := some 84, op := Op.move (Operand.tmp 0), type := 33, pos := "ref.go:199", after := #[{ on := 6, ground := Ground.guard }], guard := some (6, false) }) (v := ?v84) rfl rfl (by kernel_rfl) (by kernel_rfl) (by kernel_rfl) (fun _ _ _ h => h) (Or.inl ⟨by rfl, ?hy84⟩) (by assumption) ?rest84
      case hy84 =>
        intro w hSw
        go_simp
        first | done | with_reducible rfl
      try simp only [Act.put, List.setIfInBounds_toArray, List.set_cons_zero, List.set_cons_succ]
      refine tkH (i := 12) (d := some 85) (oi := { dst := some 85, op := Op.nilCheck (Operand.tmp 84), type := 0, pos := "ref.go:199", after := #[{ on := 11, ground := Ground.data }, { on := 6, ground := Ground.guard }], guard := some (6, false) }) (v := ?v85) rfl rfl (by kernel_rfl) (by kernel_rfl) (by kernel_rfl) (fun _ _ _ h => h) (Or.inl ⟨by rfl, ?hy85⟩) (by assumption) ?rest85
      case hy85 =>
        intro w hSw
        go_simp
        first | done | with_reducible rfl
      try simp only [Act.put, List.setIfInBounds_toArray, List.set_cons_zero, List.set_cons_succ]
      refine tkH (i := 13) (d := some 86) (oi := { dst := some 86, op := Op.fieldAddr 40 (Operand.tmp 85) 5, type := 0, pos := "ref.go:199", after := #[{ on := 12, ground := Ground.data }, { on := 6, ground := Ground.guard }], guard := some (6, false) }) (v := ?v86) rfl rfl (by kernel_rfl) (by kernel_rfl) (by kernel_rfl) (fun _ _ _ h => h) (Or.inl ⟨by rfl, ?hy86⟩) (by assumption) ?rest86
      case hy86 =>
        intro w hSw
        go_simp
        first | done | with_reducible rfl
      try simp only [Act.put, List.setIfInBounds_toArray, List.set_cons_zero, List.set_cons_succ]
      refine tkH (i := 14) (d := some 87) (oi := { dst := some 87, op := Op.load 3 (Operand.tmp 86), type := 3, pos := "ref.go:199", after := #[{ on := 13, ground := Ground.data }, { on := 6, ground := Ground.guard }], guard := some (6, false) }) (v := ?v87) rfl rfl (by kernel_rfl) (by kernel_rfl) (by kernel_rfl) (fun _ _ _ h => h) (Or.inl ⟨by rfl, ?hy87⟩) (by assumption) ?rest87
      case hy87 =>
        intro w hSw
        go_simp
        first | done | with_reducible rfl
      try simp only [Act.put, List.setIfInBounds_toArray, List.set_cons_zero, List.set_cons_succ]
      refine tkH (i := 15) (d := some 88) (oi := { dst := some 88, op := Op.binOp BinOp.add 3 (Operand.tmp 87) (Operand.const (Value.int IntKind.i64 1)) 3, type := 3, pos := "ref.go:199", after := #[{ on := 14, ground := Ground.data }, { on := 6, ground := Ground.guard }], guard := some (6, false) }) (v := ?v88) rfl rfl (by kernel_rfl) (by kernel_rfl) (by kernel_rfl) (fun _ _ _ h => h) (Or.inl ⟨by rfl, ?hy88⟩) (by assumption) ?rest88
      case hy88 =>
        intro w hSw
        go_simp
        first | done | with_reducible rfl
      try simp only [Act.put, List.setIfInBounds_toArray, List.set_cons_zero, List.set_cons_succ]
      refine tkH (i := 16) (d := some 89) (oi := { dst := some 89, op := Op.binOp BinOp.rem 3 (Operand.tmp 88) (Operand.const (Value.int IntKind.i64 2)) 3, type := 3, pos := "ref.go:199", after := #[{ on := 15, ground := Ground.data }, { on := 6, ground := Ground.guard }], guard := some (6, false) }) (v := ?v89) rfl rfl (by kernel_rfl) (by kernel_rfl) (by kernel_rfl) (fun _ _ _ h => h) (Or.inl ⟨by rfl, ?hy89⟩) (by assumption) ?rest89
      case hy89 =>
        intro w hSw
        go_simp
        first | done | with_reducible rfl
      try simp only [Act.put, List.setIfInBounds_toArray, List.set_cons_zero, List.set_cons_succ]
      refine tkH (i := 17) (d := some 90) (oi := { dst := some 90, op := Op.move (Operand.tmp 0), type := 33, pos := "ref.go:199", after := #[{ on := 6, ground := Ground.guard }], guard := some (6, false) }) (v := ?v90) rfl rfl (by kernel_rfl) (by kernel_rfl) (by kernel_rfl) (fun _ _ _ h => h) (Or.inl ⟨by rfl, ?hy90⟩) (by assumption) ?rest90
      case hy90 =>
        intro w hSw
        go_simp
        first | done | with_reducible rfl
      try simp only [Act.put, List.setIfInBounds_toArray, List.set_cons_zero, List.set_cons_succ]
      refine tkH (i := 18) (d := some 91) (oi := { dst := some 91, op := Op.nilCheck (Operand.tmp 90), type := 0, pos := "ref.go:199", after := #[{ on := 17, ground := Ground.data }, { on := 6, ground := Ground.guard }], guard := some (6, false) }) (v := ?v91) rfl rfl (by kernel_rfl) (by kernel_rfl) (by kernel_rfl) (fun _ _ _ h => h) (Or.inl ⟨by rfl, ?hy91⟩) (by assumption) ?rest91
      case hy91 =>
        intro w hSw
        go_simp
        first | done | with_reducible rfl
      try simp only [Act.put, List.setIfInBounds_toArray, List.set_cons_zero, List.set_cons_succ]
      refine tkH (i := 19) (d := some 92) (oi := { dst := some 92, op := Op.fieldAddr 40 (Operand.tmp 91) 5, type := 0, pos := "ref.go:199", after := #[{ on := 18, ground := Ground.data }, { on := 6, ground := Ground.guard }], guard := some (6, false) }) (v := ?v92) rfl rfl (by kernel_rfl) (by kernel_rfl) (by kernel_rfl) (fun _ _ _ h => h) (Or.inl ⟨by rfl, ?hy92⟩) (by assumption) ?rest92
      case hy92 =>
        intro w hSw
        go_simp
        first | done | with_reducible rfl
      try simp only [Act.put, List.setIfInBounds_toArray, List.set_cons_zero, List.set_cons_succ]
      refine tkH (i := 20) (d := some 93) (oi := { dst := some 93, op := Op.load 3 (Operand.tmp 92), type := 3, pos := "ref.go:199", after := #[{ on := 19, ground := Ground.data }, { on := 6, ground := Ground.guard }], guard := some (6, false) }) (v := ?v93) rfl rfl (by kernel_rfl) (by kernel_rfl) (by kernel_rfl) (fun _ _ _ h => h) (Or.inl ⟨by rfl, ?hy93⟩) (by assumption) ?rest93
      case hy93 =>
        intro w hSw
        go_simp
        first | done | with_reducible rfl
      try simp only [Act.put, List.setIfInBounds_toArray, List.set_cons_zero, List.set_cons_succ]
      refine tkH (i := 21) (d := some 94) (oi := { dst := some 94, op := Op.binOp BinOp.add 3 (Operand.tmp 93) (Operand.const (Value.int IntKind.i64 1)) 3, type := 3, pos := "ref.go:199", after := #[{ on := 20, ground := Ground.data }, { on := 6, ground := Ground.guard }], guard := some (6, false) }) (v := ?v94) rfl rfl (by kernel_rfl) (by kernel_rfl) (by kernel_rfl) (fun _ _ _ h => h) (Or.inl ⟨by rfl, ?hy94⟩) (by assumption) ?rest94
      case hy94 =>
        intro w hSw
        go_simp
        first | done | with_reducible rfl
      try simp only [Act.put, List.setIfInBounds_toArray, List.set_cons_zero, List.set_cons_succ]
      refine tkH (i := 22) (d := some 95) (oi := { dst := some 95, op := Op.move (Operand.tmp 1), type := 3, pos := "ref.go:199", after := #[{ on := 6, ground := Ground.guard }], guard := some (6, false) }) (v := ?v95) rfl rfl (by kernel_rfl) (by kernel_rfl) (by kernel_rfl) (fun _ _ _ h => h) (Or.inl ⟨by rfl, ?hy95⟩) (by assumption) ?rest95
      case hy95 =>
        intro w hSw
        go_simp
        first | done | with_reducible rfl
      try simp only [Act.put, List.setIfInBounds_toArray, List.set_cons_zero, List.set_cons_succ]
      refine tkH (i := 23) (d := some 96) (oi := { dst := some 96, op := Op.move (Operand.tmp 2), type := 3, pos := "ref.go:199", after := #[{ on := 6, ground := Ground.guard }], guard := some (6, false) }) (v := ?v96) rfl rfl (by kernel_rfl) (by kernel_rfl) (by kernel_rfl) (fun _ _ _ h => h) (Or.inl ⟨by rfl, ?hy96⟩) (by assumption) ?rest96
      case hy96 =>
        intro w hSw
        go_simp
        first | done | with_reducible rfl
      try simp only [Act.put, List.setIfInBounds_toArray, List.set_cons_zero, List.set_cons_succ]
      refine wpAnyH_ready (rs := [24]) (by kernel_rfl) (by simp) ?_
      refine AllReadyH.cons (o := { dst := some 97, op := Op.call { callee := Callee.value (Operand.func 49), args := #[Operand.tmp 94, Operand.tmp 95, Operand.tmp 96], argTypes := #[3, 3, 3] }, type := 9, pos := "ref.go:199", after := #[{ on := 21, ground := Ground.data }, { on := 22, ground := Ground.data }, { on := 23, ground := Ground.data }, { on := 6, ground := Ground.chain }, { on := 6, ground := Ground.guard }], guard := some (6, false) }) rfl (fun K hK => ?_) AllReadyH.nil
      go_simp
      refine (HHD.out _).mono ?_
      rintro e w4 ⟨rfl, hf4⟩
      have hd4 := hd3.stay hf4
      have hf34 := hf3.trans hf4 (fun _ _ f => f.elim)
      have i0 := cells_stay2 hf4 y0
      have i5 := cells_stay2 hf4 y5
      go_wp2_with fail
      refine hK.out _ _ (⟨i0, i5⟩) (fun hHeld => ?_)
      clear hK K
      try simp only [Act.put, List.setIfInBounds_toArray, List.set_cons_zero, List.set_cons_succ]
      refine wpAnyH_ready (rs := [25]) (by kernel_rfl) (by simp) ?_
      refine AllReadyH.cons (o := { dst := some 98, op := Op.call { callee := Callee.value (Operand.func 55), args := #[Operand.tmp 83, Operand.tmp 89, Operand.tmp 97], argTypes := #[26, 3, 9] }, type := 30, pos := "ref.go:199", after := #[{ on := 10, ground := Ground.data }, { on := 16, ground := Ground.data }, { on := 24, ground := Ground.data }, { on := 24, ground := Ground.chain }, { on := 6, ground := Ground.guard }], guard := some (6, false) }) rfl (fun K hK => ?_) AllReadyH.nil
      go_simp
      refine (HWR.out _ u3 v3 hd4.ra).mono ?_
      rintro e w5 ⟨rfl, ht5⟩
      obtain ⟨ub5, u5, v5, hd5, hu5, hb5, hc5, hf5⟩ := RPTurn.then hd4 hu3 hb3 hc3 hf34 (RPD.dturn hd4 ht5)
      obtain ⟨cap5, hq5⟩ := hd5.pa.cells
      have z0 : w5.cell? ⟨q, 0, none⟩ = some (.pointer (some ⟨m, 0, none⟩)) := cell_at hq5 0
      have z5 : w5.cell? ⟨q, 5, none⟩ = some (.int .i64 G) := by rw [cell_at hq5 5, HG.out]; rfl
      go_wp2_with fail
      refine hK.out _ _ (⟨z0, z5⟩) (fun hHeld => ?_)
      clear hK K
      try simp only [Act.put, List.setIfInBounds_toArray, List.set_cons_zero, List.set_cons_succ]
      refine tkH (i := 26) (d := some 99) (oi := { dst := some 99, op := Op.binOp BinOp.neq 30 (Operand.tmp 98) (Operand.const (Value.int IntKind.i64 0)) 30, type := 4, pos := "ref.go:199", after := #[{ on := 25, ground := Ground.data }, { on := 6, ground := Ground.guard }], guard := some (6, false) }) (v := ?v99) rfl rfl (by kernel_rfl) (by kernel_rfl) (by kernel_rfl) (fun _ _ _ h => h) (Or.inl ⟨by rfl, ?hy99⟩) (by assumption) ?rest99
      case hy99 =>
        intro w hSw
        go_simp
        first | done | with_reducible rfl
      try simp only [Act.put, List.setIfInBounds_toArray, List.set_cons_zero, List.set_cons_succ]
      refine tkH (i := 27) (d := some 100) (oi := { dst := some 100, op := Op.pick (Operand.tmp 79) (Operand.const (Value.bool true)) (Operand.tmp 99), type := 4, pos := "ref.go:199", after := #[{ on := 6, ground := Ground.data }, { on := 26, ground := Ground.data }], guard := none }) (v := ?v100) rfl rfl (by kernel_rfl) (by kernel_rfl) (by kernel_rfl) (fun _ _ _ h => h) (Or.inl ⟨by rfl, ?hy100⟩) (by assumption) ?rest100
      case hy100 =>
        intro w hSw
        go_simp
        first | done | with_reducible rfl
      try simp only [Act.put, List.setIfInBounds_toArray, List.set_cons_zero, List.set_cons_succ]
      refine tkH (i := 28) (d := some 101) (oi := { dst := some 101, op := Op.move (Operand.tmp 100), type := 4, pos := "ref.go:199", after := #[{ on := 27, ground := Ground.data }, { on := 25, ground := Ground.chain }], guard := none }) (v := ?v101) rfl rfl (by kernel_rfl) (by kernel_rfl) (by kernel_rfl) (fun _ _ _ h => h) (Or.inl ⟨by rfl, ?hy101⟩) (by assumption) ?rest101
      case hy101 =>
        intro w hSw
        go_simp
        first | done | with_reducible rfl
      try simp only [Act.put, List.setIfInBounds_toArray, List.set_cons_zero, List.set_cons_succ]
      refine tkH (i := 29) (d := some 102) (oi := { dst := some 102, op := Op.move (Operand.tmp 0), type := 33, pos := "ref.go:199", after := #[{ on := 28, ground := Ground.guard }], guard := some (28, false) }) (v := ?v102) rfl rfl (by kernel_rfl) (by kernel_rfl) (by kernel_rfl) (fun _ _ _ h => h) (Or.inl ⟨by rfl, ?hy102⟩) (by assumption) ?rest102
      case hy102 =>
        intro w hSw
        go_simp
        first | done | with_reducible rfl
      try simp only [Act.put, List.setIfInBounds_toArray, List.set_cons_zero, List.set_cons_succ]
      refine tkH (i := 30) (d := some 103) (oi := { dst := some 103, op := Op.nilCheck (Operand.tmp 102), type := 0, pos := "ref.go:199", after := #[{ on := 29, ground := Ground.data }, { on := 28, ground := Ground.guard }], guard := some (28, false) }) (v := ?v103) rfl rfl (by kernel_rfl) (by kernel_rfl) (by kernel_rfl) (fun _ _ _ h => h) (Or.inl ⟨by rfl, ?hy103⟩) (by assumption) ?rest103
      case hy103 =>
        intro w hSw
        go_simp
        first | done | with_reducible rfl
      try simp only [Act.put, List.setIfInBounds_toArray, List.set_cons_zero, List.set_cons_succ]
      refine tkH (i := 31) (d := some 104) (oi := { dst := some 104, op := Op.fieldAddr 40 (Operand.tmp 103) 0, type := 0, pos := "ref.go:199", after := #[{ on := 30, ground := Ground.data }, { on := 28, ground := Ground.guard }], guard := some (28, false) }) (v := ?v104) rfl rfl (by kernel_rfl) (by kernel_rfl) (by kernel_rfl) (fun _ _ _ h => h) (Or.inl ⟨by rfl, ?hy104⟩) (by assumption) ?rest104
      case hy104 =>
        intro w hSw
        go_simp
        first | done | with_reducible rfl
      try simp only [Act.put, List.setIfInBounds_toArray, List.set_cons_zero, List.set_cons_succ]
      refine tkH (i := 32) (d := some 105) (oi := { dst := some 105, op := Op.load 26 (Operand.tmp 104), type := 26, pos := "ref.go:199", after := #[{ on := 31, ground := Ground.data }, { on := 28, ground := Ground.guard }], guard := some (28, false) }) (v := ?v105) rfl rfl (by kernel_rfl) (by kernel_rfl) (by kernel_rfl) (fun _ _ _ h => h) (Or.inl ⟨by rfl, ?hy105⟩) (by assumption) ?rest105
      case hy105 =>
        intro w hSw
        go_simp
        first | done | with_reducible rfl
      try simp only [Act.put, List.setIfInBounds_toArray, List.set_cons_zero, List.set_cons_succ]
      refine wpAnyH_ready (rs := [33]) (by kernel_rfl) (by simp) ?_
      refine AllReadyH.cons (o := { dst := some 106, op := Op.call { callee := Callee.value (Operand.func 56), args := #[Operand.tmp 105], argTypes := #[26] }, type := 30, pos := "ref.go:199", after := #[{ on := 32, ground := Ground.data }, { on := 28, ground := Ground.chain }, { on := 28, ground := Ground.guard }], guard := some (28, false) }) rfl (fun K hK => ?_) AllReadyH.nil
      go_simp
      refine (HSY2.out _ u5 v5 hd5.ra).mono ?_
      rintro e w6 ⟨rfl, ht6⟩
      obtain ⟨ub6, u6, v6, hd6, hu6, hb6, hc6, hf6⟩ := RPTurn.then hd5 hu5 hb5 hc5 hf5 (RPD.dturn hd5 ht6)
      obtain ⟨cap6b, hq6⟩ := hd6.pa.cells
      have t0 : w6.cell? ⟨q, 0, none⟩ = some (.pointer (some ⟨m, 0, none⟩)) := cell_at hq6 0
      have t5 : w6.cell? ⟨q, 5, none⟩ = some (.int .i64 G) := by rw [cell_at hq6 5, HG.out]; rfl
      go_wp2_with fail
      refine hK.out _ _ (⟨t0, t5⟩) (fun hHeld => ?_)
      clear hK K
      try simp only [Act.put, List.setIfInBounds_toArray, List.set_cons_zero, List.set_cons_succ]
      refine tkH (i := 34) (d := some 107) (oi := { dst := some 107, op := Op.binOp BinOp.neq 30 (Operand.tmp 106) (Operand.const (Value.int IntKind.i64 0)) 30, type := 4, pos := "ref.go:199", after := #[{ on := 33, ground := Ground.data }, { on := 28, ground := Ground.guard }], guard := some (28, false) }) (v := ?v107) rfl rfl (by kernel_rfl) (by kernel_rfl) (by kernel_rfl) (fun _ _ _ h => h) (Or.inl ⟨by rfl, ?hy107⟩) (by assumption) ?rest107
      case hy107 =>
        intro w hSw
        go_simp
        first | done | with_reducible rfl
      try simp only [Act.put, List.setIfInBounds_toArray, List.set_cons_zero, List.set_cons_succ]
      refine tkH (i := 35) (d := some 108) (oi := { dst := some 108, op := Op.pick (Operand.tmp 101) (Operand.const (Value.bool true)) (Operand.tmp 107), type := 4, pos := "ref.go:199", after := #[{ on := 28, ground := Ground.data }, { on := 34, ground := Ground.data }], guard := none }) (v := ?v108) rfl rfl (by kernel_rfl) (by kernel_rfl) (by kernel_rfl) (fun _ _ _ h => h) (Or.inl ⟨by rfl, ?hy108⟩) (by assumption) ?rest108
      case hy108 =>
        intro w hSw
        go_simp
        first | done | with_reducible rfl
      try simp only [Act.put, List.setIfInBounds_toArray, List.set_cons_zero, List.set_cons_succ]
      refine wpAnyH_done (by kernel_rfl) ?_ _
      have f7 : w6.frozen? ⟨q, 7, none⟩ = false := frozen_at hq6 7
      have d7 : w6.cell? ⟨q, 7, none⟩ = some (.bool P.dead) := cell_at hq6 7
      have HTN := hid (RPTurn.pre HF2.out (RPTurn.then hd6 hu6 hb6 hc6 hf6 (RPD.pturn hd6 hd6.pa.die)))
      clear hd6 hu6 hb6 hc6 hf6 hq6 t0 t5 ht6 z0 z5 ht5 hd5 hu5 hb5 hc5 hf5 hq5 y0 y5 ht3 i0 i5 hf34 hd4 hf4 hd3 hu3 hb3 hc3 hf3 hq3
      go_wp2_with fail
      go_ret
      rw [HE.out]
      exact ⟨rfl, (told2 P).symm ▸ HTN.out⟩
    · have hi' : i < n := by omega
      have hil : i < l.length := by have := HN.out; omega
      obtain ⟨b, o, rfl, hcell⟩ := HV.out.some (by omega)
      have ci := cells_stay2 HF.out (hcell i hi')
      obtain ⟨y, hy⟩ : ∃ y, y = l.getD i 0 := ⟨_, rfl⟩
      rw [← hy] at ci
      have HY := hid hy
      have HI := hid (fun q' => HIS.out (wr.drewN q') (fr_dn HF.out) y)
      have c6 : wr.cell? ⟨q, 6, none⟩ = some (.slice (some ⟨ub, 0, none⟩) P.pages cap6) := cell_at (HF.out.at H1.out (fun f => f)) 6
      obtain ⟨pg, hpg⟩ : ∃ pg, pg = P.pages := ⟨_, rfl⟩
      rw [← hpg] at c6
      clear hcell hend hy HIS HUN
      cases hb : P.is y with
      | false => exact absurd (HOK.out i hil) (by rw [← HY.out, hb]; simp)
      | true =>
        have hyr : 0 ≤ y ∧ y < pg := by unfold PSt.is at hb; rw [← hpg] at hb; simpa using hb
        obtain ⟨J, rfl⟩ : ∃ J : Nat, y = J := ⟨y.toNat, by omega⟩
        have hJ : J < pg := by omega
        have hpg2 : pg ≤ 4096 := by have := HP.out.p2; omega
        have cu := (HU.out.keep HF.out (fun f => f)).cell (i := J) (by omega)
        have hz := useOf_zero P J
        have hvv := useOf_vals P J
        obtain ⟨u, hu⟩ : ∃ u, u = useOf P J := ⟨_, rfl⟩
        rw [← hu] at cu hz hvv
        rw [hb] at HI
        have HB := hid hb
        clear hu hpg hb
        cases hb2 : P.used (J : Int) with
        | false => exact absurd (HOK.out i hil) (by rw [← HY.out, hb2]; simp)
        | true =>
          rw [hb2] at hz
          have hz : (u == 0) = false := hz
          have HA2 := hid (show okTo P l (i + 1) by
            intro b hb'
            by_cases e : b = i
            · rw [e, ← HY.out, HB.out, hb2]; rfl
            · exact HA.out b (by omega))
          have HT2 := hid (show thereTo T0 l root (i + 1) = (T || ((J : Int) == root)) by rw [HT.out, thereTo, thereTo, take_contains l i hil, HY.out, Bool.or_assoc])
          obtain ⟨E, hE⟩ : ∃ E, ((J : Int) == root) = E := ⟨_, rfl⟩
          rw [hE] at HT2
          clear hb2
          go_wp2_with fail
          go_quiet (first | (go_at_call 64; exact Calls.quiet_of_same (HI.out _)))
          cases T with
          | true =>
            go_wp2_with fail
            exact ⟨⟨i + 1, by rw [HT2.out]; rfl, by go_num, by omega, HA2, hid (fr_dn HF.out)⟩, by simp [intOf]; omega⟩
          | false =>
            cases E <;>
            · go_wp2_with fail
              exact ⟨⟨i + 1, by rw [HT2.out]; rfl, by go_num, by omega, HA2, hid (fr_dn HF.out)⟩, by simp [intOf]; omega⟩


end Go.Proofs.YtjkhcfdflcndkaaGreat.D
