/-
  The document's pager: Commit, where it counts. No condition beyond the sizes that are named.
-/
import Derived.Test.YtjkhcfdflcndkaaGreatKO27
import Derived.BigQuiet
import Derived.Deep.RegionWith
import Derived.Deep.RegionHeld3
namespace Go.Proofs.YtjkhcfdflcndkaaGreat.D
open Go.RowKit Go.Maps Go.Shelf
set_option linter.unusedVariables false
set_option linter.unusedSimpArgs false

set_option maxHeartbeats 16000000 in
set_option maxRecDepth 100000 in
theorem rpcommit_go4 (w : World) (q m ub b1 b2 : Nat) (P : PSt) (S : St) (h : RPD w q m ub b1 b2 P S) (hS : S.Ok) (hP : P.Ok S.n) (root fr : Int) (v : Value) (l : List Int) (hv : IntsV w v l) (hst : ∀ W, Fr (fun i => i = q ∨ i = m ∨ i = b1 ∨ i = b2) w W → IntsV W v l) (hd : P.dead = false) (hm : P.mayCommit root l = true) (hf1 : 1 ≤ fr) (hf2 : fr ≤ 1152921504606846976) (hgg : P.gen < 1152921504606846976) (hc1 : S.sync.2 = 0) (hc2 : (P.head S.sync.1 root fr).2 = 0) (hc3 : (P.head S.sync.1 root fr).1.sync.2 = 0) :
    RCommitC w q m ub b1 b2 P S root fr v l := by
  have HE := hid (show P.commit S root fr l = (P.done root fr l, (P.head S.sync.1 root fr).1.sync.1, 0) by
    unfold PSt.commit
    rw [if_neg (by simp [hd]), if_neg (by simp [hm]), if_neg (by omega)]
    unfold PSt.goes
    rw [if_neg (by simp [hc1]), if_neg (by simp [hc2]), if_neg (by simp [hc3])]; rfl)
  have HMAY := hid hm
  have HOK := hid (rmay_ok hm)
  obtain ⟨FR, rfl⟩ : ∃ FR : Nat, fr = FR := ⟨fr.toNat, by omega⟩
  obtain ⟨rp, hrp⟩ : ∃ rp : Nat, root + 1 = rp := ⟨(root + 1).toNat, by have := rmay_root hP hm; omega⟩
  have hrp2 : rp ≤ 4097 := by have := rmay_root hP hm; have := hP.p2; omega
  obtain ⟨K2, hK2⟩ : ∃ K2 : Nat, K2 = (P.gen + 1) % 2 := ⟨_, rfl⟩
  have hk2 : K2 < 2 := by omega
  have hph : ∀ S' : St, P.head S' root (FR : Int) = S'.write (K2 : Int) (headB (P.gen + 1) rp FR) := by
    intro S'
    unfold PSt.head
    rw [hK2, show (root + 1).toNat = rp by omega, Int.toNat_natCast]
  have HHD := hid (fun W : World => rhead_c W (P.gen + 1) rp FR root hrp (by omega) (by omega) (by omega))
  have HSY := hid (fun (W : World) (c1 c2 : Nat) (hA : RA W m c1 c2 S) => show Calls Tryz.prog 56 #[.pointer (some ⟨m, 0, none⟩)] W fun e w' => e = .returned (.int .i64 S.sync.2) ∧ RTurn W m c1 c2 S.sync.1 w' from rsync_c W m c1 c2 S hA hS)
  rw [hc1] at HSY
  obtain ⟨S1, hS1⟩ : ∃ S1, S1 = S.sync.1 := ⟨_, rfl⟩
  have hso1 : S1.Ok := hS1 ▸ (sync_ok hS).1
  rw [← hS1] at hc2 HE HSY
  have HWR := hid (fun (W : World) (c1 c2 : Nat) (hA : RA W m c1 c2 S1) => show Calls Tryz.prog 55 #[.pointer (some ⟨m, 0, none⟩), .int .i64 (K2 : Int), .string (bs (headB (P.gen + 1) rp FR))] W fun e w' => e = .returned (.int .i64 (P.head S1 root (FR : Int)).2) ∧ RTurn W m c1 c2 (P.head S1 root (FR : Int)).1 w' from hph S1 ▸
    rwrite_c W m c1 c2 S1 hA hso1 (K2 : Int) (by omega) (by omega) _ (by rw [headB_len]; decide))
  rw [hc2] at HWR
  have hso2 : (P.head S1 root (FR : Int)).1.Ok := by rw [hph]; exact (write_ok hso1 _ _).1
  rw [← hS1] at hc3
  have HSY2 := hid (fun (W : World) (c1 c2 : Nat) (hA : RA W m c1 c2 (P.head S1 root (FR : Int)).1) => show Calls Tryz.prog 56 #[.pointer (some ⟨m, 0, none⟩)] W fun e w' => e = .returned (.int .i64 (P.head S1 root (FR : Int)).1.sync.2) ∧ RTurn W m c1 c2 (P.head S1 root (FR : Int)).1.sync.1 w' from rsync_c W m c1 c2 _ hA hso2)
  rw [hc3] at HSY2
  obtain ⟨S3, hS3⟩ : ∃ S3, S3 = (P.head S1 root (FR : Int)).1.sync.1 := ⟨_, rfl⟩
  rw [← hS3] at HSY2 HE
  obtain ⟨S2, hS2⟩ : ∃ S2, S2 = (P.head S1 root (FR : Int)).1 := ⟨_, rfl⟩
  rw [← hS2] at HWR HSY2
  obtain ⟨H, hH⟩ : ∃ H, H = headB (P.gen + 1) rp FR := ⟨_, rfl⟩
  rw [← hH] at HWR HHD
  have HD := hid h
  have HV := hid hv
  have HST := hid hst
  have HUN := hid (fun W (hf : Fr (fun _ => False) w W) => runlike_c W _ l (hv.stay hf))
  have HIS := hid (fun W (hf : Fr (fun _ => False) w W) k => rpis_c W q m ub P (h.pa.stay hf) k)
  obtain ⟨a, cap, rfl, hlen, _⟩ := hv
  obtain ⟨⟨⟨cap6, h1⟩, hU⟩, hra⟩ := h
  have H1 := hid h1
  have HU := hid hU
  have k7 : w.cell? ⟨q, 7, none⟩ = some (.bool P.dead) := cell_at h1 7
  have hg2 := hP.g2
  unfold RCommitC
  rw [hd] at k7
  have HDD := hid hd
  obtain ⟨n, hn⟩ : ∃ n, n = l.length := ⟨_, rfl⟩
  rw [← hn] at hlen HV HST HUN ⊢
  have HN := hid hn
  obtain ⟨G, hG⟩ : ∃ G, G = P.gen := ⟨_, rfl⟩
  have HG := hid hG
  rw [← hG] at hg2
  have HP := hid hP
  have HSELF := hid (fun W (hf : Fr (fun _ => False) w W) => RPTurn.self HD.out hf)
  obtain ⟨T0, hT0⟩ : ∃ T0, T0 = decide (root = -1) := ⟨_, rfl⟩
  have dr : (root == -1) = T0 := by rw [hT0]; by_cases e : root = -1 <;> simp [e]
  have HT0 := hid hT0
  have x1 : IntKind.i64.wrap ((G : Int) + 1) = (G : Int) + 1 := by rw [IntKind.wrap_i64]; omega
  have x6 : ((G : Int) + 1) % 2 = (K2 : Int) := by have := hG; omega
  have x7 : Int.tmod ((G : Int) + 1) 2 = (K2 : Int) := by rw [Int.tmod_eq_emod_of_nonneg (by omega)]; exact x6
  have x5 : IntKind.i64.wrap (K2 : Int) = K2 := by rw [IntKind.wrap_i64]; omega
  rw [show ((P.gen + 1 : Nat) : Int) = (G : Int) + 1 by rw [hG]; omega] at HHD
  have d1 : decide ((FR : Int) < 1) = false := decide_eq_false (by omega)
  have d2 : decide (1152921504606846976 < (FR : Int)) = false := decide_eq_false (by omega)
  have d3 : ((G : Int) == 1152921504606846976) = false := by rw [Bool.eq_false_iff]; intro e; simp at e; omega
  clear hst h1 hU hra hd hS hP hn hG hT0 hm hf1 hf2 hgg hg2 hrp hrp2 hK2 hph hc1 hc2 hc3 hS1 hso1 hso2 hS2 hS3 hH
  go_enter Tryz.func28, Tryz.ntmps28
  go_wp2_with fail
  go_loopw [9, 10] (fun v9 v10 wr => ∃ i : Nat, v9 = .bool (thereTo T0 l root i) ∧ v10 = .int .i64 i ∧ i ≤ n ∧ Hid (okTo P l i) ∧ Hid (Fr (fun _ => False) w wr)) (fun _ v _ => n - (intOf v).toNat)
  case atStart => exact ⟨0, by simp [thereTo], rfl, by omega, hid (fun b hb => absurd hb (by omega)), hid (Fr.refl _ _)⟩
  case round =>
    obtain ⟨i, rfl, rfl, hi, HA, HF⟩ := hrel
    obtain ⟨T, hT⟩ : ∃ T, T = thereTo T0 l root i := ⟨_, rfl⟩
    rw [← hT]
    have HT := hid hT
    clear hT
    by_cases hend : i = n
    · have HAL := hid (all_take (fun i => P.is i && P.used i) l (fun b hb => HA.out b (by have := HN.out; omega)))
      have HTT := hid (show T = (decide (root = -1) || l.contains root) by rw [HT.out, thereTo, HT0.out, hend, HN.out, List.take_length])
      subst hend
      clear HIS
      have hTT : T = true := by
        have := HMAY.out
        unfold PSt.mayCommit at this
        rw [HTT.out]
        simp only [Bool.and_eq_true] at this
        exact this.2
      subst hTT
      go_wp2_with fail
      refine (HUN.out _ HF.out).mono ?_
      rintro e w2 ⟨rfl, hf2⟩
      have HF2 := hid (HF.out.trans hf2 (fun _ _ f => f))
      clear hf2 HUN
      have hnd : decide l.Nodup = true := by
        have := HMAY.out
        unfold PSt.mayCommit setOk at this
        simp only [Bool.and_eq_true] at this
        exact this.1.2
      rw [hnd]
      have HQ := hid (HF2.out.at H1.out (fun f => f))
      have HD2 := hid (HD.out.stay HF2.out)
      have k0 : w2.cell? ⟨q, 0, none⟩ = some (.pointer (some ⟨m, 0, none⟩)) := cell_at HQ.out 0
      have k5 : w2.cell? ⟨q, 5, none⟩ = some (.int .i64 G) := by rw [cell_at HQ.out 5, HG.out]; rfl
      clear hnd k7 dr
      go_wp2_with fail
      refine wp_region_held_drew (S := fun w' => w'.cell? ⟨q, 0, none⟩ = some (.pointer (some ⟨m, 0, none⟩)) ∧ w'.cell? ⟨q, 5, none⟩ = some (.int .i64 G)) (by kernel_rfl) (⟨k0, k5⟩) (fun hHeld => ?_)
      refine tkH (i := 0) (d := some 73) (oi := { dst := some 73, op := Op.move (Operand.tmp 0), type := 33, pos := "ref.go:199", after := #[], guard := none }) (v := ?v109) rfl rfl (by kernel_rfl) (by kernel_rfl) (by kernel_rfl) (fun _ _ _ h => h) (Or.inl ⟨by rfl, ?hy109⟩) (by assumption) ?rest109
      case hy109 =>
        intro w hSw
        go_simp
        first | done | with_reducible rfl
      try simp only [Act.put, List.setIfInBounds_toArray, List.set_cons_zero, List.set_cons_succ]
      refine tkH (i := 1) (d := some 74) (oi := { dst := some 74, op := Op.nilCheck (Operand.tmp 73), type := 0, pos := "ref.go:199", after := #[{ on := 0, ground := Ground.data }], guard := none }) (v := ?v110) rfl rfl (by kernel_rfl) (by kernel_rfl) (by kernel_rfl) (fun _ _ _ h => h) (Or.inl ⟨by rfl, ?hy110⟩) (by assumption) ?rest110
      case hy110 =>
        intro w hSw
        go_simp
        first | done | with_reducible rfl
      try simp only [Act.put, List.setIfInBounds_toArray, List.set_cons_zero, List.set_cons_succ]
      refine tkH (i := 2) (d := some 75) (oi := { dst := some 75, op := Op.fieldAddr 40 (Operand.tmp 74) 0, type := 0, pos := "ref.go:199", after := #[{ on := 1, ground := Ground.data }], guard := none }) (v := ?v111) rfl rfl (by kernel_rfl) (by kernel_rfl) (by kernel_rfl) (fun _ _ _ h => h) (Or.inl ⟨by rfl, ?hy111⟩) (by assumption) ?rest111
      case hy111 =>
        intro w hSw
        go_simp
        first | done | with_reducible rfl
      try simp only [Act.put, List.setIfInBounds_toArray, List.set_cons_zero, List.set_cons_succ]
      refine tkH (i := 3) (d := some 76) (oi := { dst := some 76, op := Op.load 26 (Operand.tmp 75), type := 26, pos := "ref.go:199", after := #[{ on := 2, ground := Ground.data }], guard := none }) (v := ?v112) rfl rfl (by kernel_rfl) (by kernel_rfl) (by kernel_rfl) (fun _ _ _ h => h) (Or.inl ⟨by rfl, ?hy112⟩) (by assumption) ?rest112
      case hy112 =>
        intro w hSw
        go_simp
        first | done | with_reducible rfl
      try simp only [Act.put, List.setIfInBounds_toArray, List.set_cons_zero, List.set_cons_succ]
      refine wpAnyH_ready (rs := [4]) (by kernel_rfl) (by simp) ?_
      refine AllReadyH.cons (o := { dst := some 77, op := Op.call { callee := Callee.value (Operand.func 56), args := #[Operand.tmp 76], argTypes := #[26] }, type := 30, pos := "ref.go:199", after := #[{ on := 3, ground := Ground.data }], guard := none }) rfl (fun K hK => ?_) AllReadyH.nil
      go_simp
      refine (HSY.out _ b1 b2 (RC.stay HD2.out.ra ((Fr.refl _ w2).drew))).mono ?_
      rintro e w3 ⟨rfl, ht3⟩
      obtain ⟨ub3, u3, v3, hd3, hu3, hb3, hc3, hf3⟩ := RPTurn.pre ((Fr.refl _ w2).drew) (RPD.dturn (HD2.out.stay ((Fr.refl _ w2).drew)) ht3)
      obtain ⟨cap3, hq3⟩ := hd3.pa.cells
      have y0 : w3.cell? ⟨q, 0, none⟩ = some (.pointer (some ⟨m, 0, none⟩)) := cell_at hq3 0
      have y5 : w3.cell? ⟨q, 5, none⟩ = some (.int .i64 G) := by rw [cell_at hq3 5, HG.out]; rfl
      go_wp2_with fail
      refine hK.out _ _ (⟨y0, y5⟩) (fun hHeld => ?_)
      clear hK K
      try simp only [Act.put, List.setIfInBounds_toArray, List.set_cons_zero, List.set_cons_succ]
      refine tkH (i := 5) (d := some 78) (oi := { dst := some 78, op := Op.binOp BinOp.neq 30 (Operand.tmp 77) (Operand.const (Value.int IntKind.i64 0)) 30, type := 4, pos := "ref.go:199", after := #[{ on := 4, ground := Ground.data }], guard := none }) (v := ?v114) rfl rfl (by kernel_rfl) (by kernel_rfl) (by kernel_rfl) (fun _ _ _ h => h) (Or.inl ⟨by rfl, ?hy114⟩) (by assumption) ?rest114
      case hy114 =>
        intro w hSw
        go_simp
        first | done | with_reducible rfl
      try simp only [Act.put, List.setIfInBounds_toArray, List.set_cons_zero, List.set_cons_succ]
      refine tkH (i := 6) (d := some 79) (oi := { dst := some 79, op := Op.move (Operand.tmp 78), type := 4, pos := "ref.go:199", after := #[{ on := 5, ground := Ground.data }, { on := 4, ground := Ground.chain }], guard := none }) (v := ?v115) rfl rfl (by kernel_rfl) (by kernel_rfl) (by kernel_rfl) (fun _ _ _ h => h) (Or.inl ⟨by rfl, ?hy115⟩) (by assumption) ?rest115
      case hy115 =>
        intro w hSw
        go_simp
        first | done | with_reducible rfl
      try simp only [Act.put, List.setIfInBounds_toArray, List.set_cons_zero, List.set_cons_succ]
      refine tkH (i := 7) (d := some 80) (oi := { dst := some 80, op := Op.move (Operand.tmp 0), type := 33, pos := "ref.go:199", after := #[{ on := 6, ground := Ground.guard }], guard := some (6, false) }) (v := ?v116) rfl rfl (by kernel_rfl) (by kernel_rfl) (by kernel_rfl) (fun _ _ _ h => h) (Or.inl ⟨by rfl, ?hy116⟩) (by assumption) ?rest116
      case hy116 =>
        intro w hSw
        go_simp
        first | done | with_reducible rfl
      try simp only [Act.put, List.setIfInBounds_toArray, List.set_cons_zero, List.set_cons_succ]
      refine tkH (i := 8) (d := some 81) (oi := { dst := some 81, op := Op.nilCheck (Operand.tmp 80), type := 0, pos := "ref.go:199", after := #[{ on := 7, ground := Ground.data }, { on := 6, ground := Ground.guard }], guard := some (6, false) }) (v := ?v117) rfl rfl (by kernel_rfl) (by kernel_rfl) (by kernel_rfl) (fun _ _ _ h => h) (Or.inl ⟨by rfl, ?hy117⟩) (by assumption) ?rest117
      case hy117 =>
        intro w hSw
        go_simp
        first | done | with_reducible rfl
      try simp only [Act.put, List.setIfInBounds_toArray, List.set_cons_zero, List.set_cons_succ]
      refine tkH (i := 9) (d := some 82) (oi := { dst := some 82, op := Op.fieldAddr 40 (Operand.tmp 81) 0, type := 0, pos := "ref.go:199", after := #[{ on := 8, ground := Ground.data }, { on := 6, ground := Ground.guard }], guard := some (6, false) }) (v := ?v118) rfl rfl (by kernel_rfl) (by kernel_rfl) (by kernel_rfl) (fun _ _ _ h => h) (Or.inl ⟨by rfl, ?hy118⟩) (by assumption) ?rest118
      case hy118 =>
        intro w hSw
        go_simp
        first | done | with_reducible rfl
      try simp only [Act.put, List.setIfInBounds_toArray, List.set_cons_zero, List.set_cons_succ]
      refine tkH (i := 10) (d := some 83) (oi := { dst := some 83, op := Op.load 26 (Operand.tmp 82), type := 26, pos := "ref.go:199", after := #[{ on := 9, ground := Ground.data }, { on := 6, ground := Ground.guard }], guard := some (6, false) }) (v := ?v119) rfl rfl (by kernel_rfl) (by kernel_rfl) (by kernel_rfl) (fun _ _ _ h => h) (Or.inl ⟨by rfl, ?hy119⟩) (by assumption) ?rest119
      case hy119 =>
        intro w hSw
        go_simp
        first | done | with_reducible rfl
      try simp only [Act.put, List.setIfInBounds_toArray, List.set_cons_zero, List.set_cons_succ]
      refine tkH (i := 11) (d := some 84) (oi := { dst := some 84, op := Op.move (Operand.tmp 0), type := 33, pos := "ref.go:199", after := #[{ on := 6, ground := Ground.guard }], guard := some (6, false) }) (v := ?v120) rfl rfl (by kernel_rfl) (by kernel_rfl) (by kernel_rfl) (fun _ _ _ h => h) (Or.inl ⟨by rfl, ?hy120⟩) (by assumption) ?rest120
      case hy120 =>
        intro w hSw
        go_simp
        first | done | with_reducible rfl
      try simp only [Act.put, List.setIfInBounds_toArray, List.set_cons_zero, List.set_cons_succ]
      refine tkH (i := 12) (d := some 85) (oi := { dst := some 85, op := Op.nilCheck (Operand.tmp 84), type := 0, pos := "ref.go:199", after := #[{ on := 11, ground := Ground.data }, { on := 6, ground := Ground.guard }], guard := some (6, false) }) (v := ?v121) rfl rfl (by kernel_rfl) (by kernel_rfl) (by kernel_rfl) (fun _ _ _ h => h) (Or.inl ⟨by rfl, ?hy121⟩) (by assumption) ?rest121
      case hy121 =>
        intro w hSw
        go_simp
        first | done | with_reducible rfl
      try simp only [Act.put, List.setIfInBounds_toArray, List.set_cons_zero, List.set_cons_succ]
      refine tkH (i := 13) (d := some 86) (oi := { dst := some 86, op := Op.fieldAddr 40 (Operand.tmp 85) 5, type := 0, pos := "ref.go:199", after := #[{ on := 12, ground := Ground.data }, { on := 6, ground := Ground.guard }], guard := some (6, false) }) (v := ?v122) rfl rfl (by kernel_rfl) (by kernel_rfl) (by kernel_rfl) (fun _ _ _ h => h) (Or.inl ⟨by rfl, ?hy122⟩) (by assumption) ?rest122
      case hy122 =>
        intro w hSw
        go_simp
        first | done | with_reducible rfl
      try simp only [Act.put, List.setIfInBounds_toArray, List.set_cons_zero, List.set_cons_succ]
      refine tkH (i := 14) (d := some 87) (oi := { dst := some 87, op := Op.load 3 (Operand.tmp 86), type := 3, pos := "ref.go:199", after := #[{ on := 13, ground := Ground.data }, { on := 6, ground := Ground.guard }], guard := some (6, false) }) (v := ?v123) rfl rfl (by kernel_rfl) (by kernel_rfl) (by kernel_rfl) (fun _ _ _ h => h) (Or.inl ⟨by rfl, ?hy123⟩) (by assumption) ?rest123
      case hy123 =>
        intro w hSw
        go_simp
        first | done | with_reducible rfl
      try simp only [Act.put, List.setIfInBounds_toArray, List.set_cons_zero, List.set_cons_succ]
      refine tkH (i := 15) (d := some 88) (oi := { dst := some 88, op := Op.binOp BinOp.add 3 (Operand.tmp 87) (Operand.const (Value.int IntKind.i64 1)) 3, type := 3, pos := "ref.go:199", after := #[{ on := 14, ground := Ground.data }, { on := 6, ground := Ground.guard }], guard := some (6, false) }) (v := ?v124) rfl rfl (by kernel_rfl) (by kernel_rfl) (by kernel_rfl) (fun _ _ _ h => h) (Or.inl ⟨by rfl, ?hy124⟩) (by assumption) ?rest124
      case hy124 =>
        intro w hSw
        go_simp
        first | done | with_reducible rfl
      try simp only [Act.put, List.setIfInBounds_toArray, List.set_cons_zero, List.set_cons_succ]
      refine tkH (i := 16) (d := some 89) (oi := { dst := some 89, op := Op.binOp BinOp.rem 3 (Operand.tmp 88) (Operand.const (Value.int IntKind.i64 2)) 3, type := 3, pos := "ref.go:199", after := #[{ on := 15, ground := Ground.data }, { on := 6, ground := Ground.guard }], guard := some (6, false) }) (v := ?v125) rfl rfl (by kernel_rfl) (by kernel_rfl) (by kernel_rfl) (fun _ _ _ h => h) (Or.inl ⟨by rfl, ?hy125⟩) (by assumption) ?rest125
      case hy125 =>
        intro w hSw
        go_simp
        first | done | with_reducible rfl
      try simp only [Act.put, List.setIfInBounds_toArray, List.set_cons_zero, List.set_cons_succ]
      refine tkH (i := 17) (d := some 90) (oi := { dst := some 90, op := Op.move (Operand.tmp 0), type := 33, pos := "ref.go:199", after := #[{ on := 6, ground := Ground.guard }], guard := some (6, false) }) (v := ?v126) rfl rfl (by kernel_rfl) (by kernel_rfl) (by kernel_rfl) (fun _ _ _ h => h) (Or.inl ⟨by rfl, ?hy126⟩) (by assumption) ?rest126
      case hy126 =>
        intro w hSw
        go_simp
        first | done | with_reducible rfl
      try simp only [Act.put, List.setIfInBounds_toArray, List.set_cons_zero, List.set_cons_succ]
      refine tkH (i := 18) (d := some 91) (oi := { dst := some 91, op := Op.nilCheck (Operand.tmp 90), type := 0, pos := "ref.go:199", after := #[{ on := 17, ground := Ground.data }, { on := 6, ground := Ground.guard }], guard := some (6, false) }) (v := ?v127) rfl rfl (by kernel_rfl) (by kernel_rfl) (by kernel_rfl) (fun _ _ _ h => h) (Or.inl ⟨by rfl, ?hy127⟩) (by assumption) ?rest127
      case hy127 =>
        intro w hSw
        go_simp
        first | done | with_reducible rfl
      try simp only [Act.put, List.setIfInBounds_toArray, List.set_cons_zero, List.set_cons_succ]
      refine tkH (i := 19) (d := some 92) (oi := { dst := some 92, op := Op.fieldAddr 40 (Operand.tmp 91) 5, type := 0, pos := "ref.go:199", after := #[{ on := 18, ground := Ground.data }, { on := 6, ground := Ground.guard }], guard := some (6, false) }) (v := ?v128) rfl rfl (by kernel_rfl) (by kernel_rfl) (by kernel_rfl) (fun _ _ _ h => h) (Or.inl ⟨by rfl, ?hy128⟩) (by assumption) ?rest128
      case hy128 =>
        intro w hSw
        go_simp
        first | done | with_reducible rfl
      try simp only [Act.put, List.setIfInBounds_toArray, List.set_cons_zero, List.set_cons_succ]
      refine tkH (i := 20) (d := some 93) (oi := { dst := some 93, op := Op.load 3 (Operand.tmp 92), type := 3, pos := "ref.go:199", after := #[{ on := 19, ground := Ground.data }, { on := 6, ground := Ground.guard }], guard := some (6, false) }) (v := ?v129) rfl rfl (by kernel_rfl) (by kernel_rfl) (by kernel_rfl) (fun _ _ _ h => h) (Or.inl ⟨by rfl, ?hy129⟩) (by assumption) ?rest129
      case hy129 =>
        intro w hSw
        go_simp
        first | done | with_reducible rfl
      try simp only [Act.put, List.setIfInBounds_toArray, List.set_cons_zero, List.set_cons_succ]
      refine tkH (i := 21) (d := some 94) (oi := { dst := some 94, op := Op.binOp BinOp.add 3 (Operand.tmp 93) (Operand.const (Value.int IntKind.i64 1)) 3, type := 3, pos := "ref.go:199", after := #[{ on := 20, ground := Ground.data }, { on := 6, ground := Ground.guard }], guard := some (6, false) }) (v := ?v130) rfl rfl (by kernel_rfl) (by kernel_rfl) (by kernel_rfl) (fun _ _ _ h => h) (Or.inl ⟨by rfl, ?hy130⟩) (by assumption) ?rest130
      case hy130 =>
        intro w hSw
        go_simp
        first | done | with_reducible rfl
      try simp only [Act.put, List.setIfInBounds_toArray, List.set_cons_zero, List.set_cons_succ]
      refine tkH (i := 22) (d := some 95) (oi := { dst := some 95, op := Op.move (Operand.tmp 1), type := 3, pos := "ref.go:199", after := #[{ on := 6, ground := Ground.guard }], guard := some (6, false) }) (v := ?v131) rfl rfl (by kernel_rfl) (by kernel_rfl) (by kernel_rfl) (fun _ _ _ h => h) (Or.inl ⟨by rfl, ?hy131⟩) (by assumption) ?rest131
      case hy131 =>
        intro w hSw
        go_simp
        first | done | with_reducible rfl
      try simp only [Act.put, List.setIfInBounds_toArray, List.set_cons_zero, List.set_cons_succ]
      refine tkH (i := 23) (d := some 96) (oi := { dst := some 96, op := Op.move (Operand.tmp 2), type := 3, pos := "ref.go:199", after := #[{ on := 6, ground := Ground.guard }], guard := some (6, false) }) (v := ?v132) rfl rfl (by kernel_rfl) (by kernel_rfl) (by kernel_rfl) (fun _ _ _ h => h) (Or.inl ⟨by rfl, ?hy132⟩) (by assumption) ?rest132
      case hy132 =>
        intro w hSw
        go_simp
        first | done | with_reducible rfl
      try simp only [Act.put, List.setIfInBounds_toArray, List.set_cons_zero, List.set_cons_succ]
      refine wpAnyH_ready (rs := [24]) (by kernel_rfl) (by simp) ?_
      refine AllReadyH.cons (o := { dst := some 97, op := Op.call { callee := Callee.value (Operand.func 49), args := #[Operand.tmp 94, Operand.tmp 95, Operand.tmp 96], argTypes := #[3, 3, 3] }, type := 9, pos := "ref.go:199", after := #[{ on := 21, ground := Ground.data }, { on := 22, ground := Ground.data }, { on := 23, ground := Ground.data }, { on := 6, ground := Ground.chain }, { on := 6, ground := Ground.guard }], guard := some (6, false) }) rfl (fun K hK => ?_) AllReadyH.nil
      go_simp
      refine (HHD.out _).mono ?_
      rintro e w4 ⟨rfl, hf4⟩
      have hd4 := hd3.stay hf4
      have hf34 := hf3.trans hf4 (fun _ _ f => f.elim)
      have i0 := cells_stay2 hf4 y0
      have i5 := cells_stay2 hf4 y5
      go_wp2_with fail
      refine hK.out _ _ (⟨i0, i5⟩) (fun hHeld => ?_)
      clear hK K
      try simp only [Act.put, List.setIfInBounds_toArray, List.set_cons_zero, List.set_cons_succ]
      refine wpAnyH_ready (rs := [25]) (by kernel_rfl) (by simp) ?_
      refine AllReadyH.cons (o := { dst := some 98, op := Op.call { callee := Callee.value (Operand.func 55), args := #[Operand.tmp 83, Operand.tmp 89, Operand.tmp 97], argTypes := #[26, 3, 9] }, type := 30, pos := "ref.go:199", after := #[{ on := 10, ground := Ground.data }, { on := 16, ground := Ground.data }, { on := 24, ground := Ground.data }, { on := 24, ground := Ground.chain }, { on := 6, ground := Ground.guard }], guard := some (6, false) }) rfl (fun K hK => ?_) AllReadyH.nil
      go_simp
      refine (HWR.out _ u3 v3 hd4.ra).mono ?_
      rintro e w5 ⟨rfl, ht5⟩
      obtain ⟨ub5, u5, v5, hd5, hu5, hb5, hc5, hf5⟩ := RPTurn.then hd4 hu3 hb3 hc3 hf34 (RPD.dturn hd4 ht5)
      obtain ⟨cap5, hq5⟩ := hd5.pa.cells
      have z0 : w5.cell? ⟨q, 0, none⟩ = some (.pointer (some ⟨m, 0, none⟩)) := cell_at hq5 0
      have z5 : w5.cell? ⟨q, 5, none⟩ = some (.int .i64 G) := by rw [cell_at hq5 5, HG.out]; rfl
      go_wp2_with fail
      refine hK.out _ _ (⟨z0, z5⟩) (fun hHeld => ?_)
      clear hK K
      try simp only [Act.put, List.setIfInBounds_toArray, List.set_cons_zero, List.set_cons_succ]
      refine tkH (i := 26) (d := some 99) (oi := { dst := some 99, op := Op.binOp BinOp.neq 30 (Operand.tmp 98) (Operand.const (Value.int IntKind.i64 0)) 30, type := 4, pos := "ref.go:199", after := #[{ on := 25, ground := Ground.data }, { on := 6, ground := Ground.guard }], guard := some (6, false) }) (v := ?v135) rfl rfl (by kernel_rfl) (by kernel_rfl) (by kernel_rfl) (fun _ _ _ h => h) (Or.inl ⟨by rfl, ?hy135⟩) (by assumption) ?rest135
      case hy135 =>
        intro w hSw
        go_simp
        first | done | with_reducible rfl
      try simp only [Act.put, List.setIfInBounds_toArray, List.set_cons_zero, List.set_cons_succ]
      refine tkH (i := 27) (d := some 100) (oi := { dst := some 100, op := Op.pick (Operand.tmp 79) (Operand.const (Value.bool true)) (Operand.tmp 99), type := 4, pos := "ref.go:199", after := #[{ on := 6, ground := Ground.data }, { on := 26, ground := Ground.data }], guard := none }) (v := ?v136) rfl rfl (by kernel_rfl) (by kernel_rfl) (by kernel_rfl) (fun _ _ _ h => h) (Or.inl ⟨by rfl, ?hy136⟩) (by assumption) ?rest136
      case hy136 =>
        intro w hSw
        go_simp
        first | done | with_reducible rfl
      try simp only [Act.put, List.setIfInBounds_toArray, List.set_cons_zero, List.set_cons_succ]
      refine tkH (i := 28) (d := some 101) (oi := { dst := some 101, op := Op.move (Operand.tmp 100), type := 4, pos := "ref.go:199", after := #[{ on := 27, ground := Ground.data }, { on := 25, ground := Ground.chain }], guard := none }) (v := ?v137) rfl rfl (by kernel_rfl) (by kernel_rfl) (by kernel_rfl) (fun _ _ _ h => h) (Or.inl ⟨by rfl, ?hy137⟩) (by assumption) ?rest137
      case hy137 =>
        intro w hSw
        go_simp
        first | done | with_reducible rfl
      try simp only [Act.put, List.setIfInBounds_toArray, List.set_cons_zero, List.set_cons_succ]
      refine tkH (i := 29) (d := some 102) (oi := { dst := some 102, op := Op.move (Operand.tmp 0), type := 33, pos := "ref.go:199", after := #[{ on := 28, ground := Ground.guard }], guard := some (28, false) }) (v := ?v138) rfl rfl (by kernel_rfl) (by kernel_rfl) (by kernel_rfl) (fun _ _ _ h => h) (Or.inl ⟨by rfl, ?hy138⟩) (by assumption) ?rest138
      case hy138 =>
        intro w hSw
        go_simp
        first | done | with_reducible rfl
      try simp only [Act.put, List.setIfInBounds_toArray, List.set_cons_zero, List.set_cons_succ]
      refine tkH (i := 30) (d := some 103) (oi := { dst := some 103, op := Op.nilCheck (Operand.tmp 102), type := 0, pos := "ref.go:199", after := #[{ on := 29, ground := Ground.data }, { on := 28, ground := Ground.guard }], guard := some (28, false) }) (v := ?v139) rfl rfl (by kernel_rfl) (by kernel_rfl) (by kernel_rfl) (fun _ _ _ h => h) (Or.inl ⟨by rfl, ?hy139⟩) (by assumption) ?rest139
      case hy139 =>
        intro w hSw
        go_simp
        first | done | with_reducible rfl
      try simp only [Act.put, List.setIfInBounds_toArray, List.set_cons_zero, List.set_cons_succ]
      refine tkH (i := 31) (d := some 104) (oi := { dst := some 104, op := Op.fieldAddr 40 (Operand.tmp 103) 0, type := 0, pos := "ref.go:199", after := #[{ on := 30, ground := Ground.data }, { on := 28, ground := Ground.guard }], guard := some (28, false) }) (v := ?v140) rfl rfl (by kernel_rfl) (by kernel_rfl) (by kernel_rfl) (fun _ _ _ h => h) (Or.inl ⟨by rfl, ?hy140⟩) (by assumption) ?rest140
      case hy140 =>
        intro w hSw
        go_simp
        first | done | with_reducible rfl
      try simp only [Act.put, List.setIfInBounds_toArray, List.set_cons_zero, List.set_cons_succ]
      refine tkH (i := 32) (d := some 105) (oi := { dst := some 105, op := Op.load 26 (Operand.tmp 104), type := 26, pos := "ref.go:199", after := #[{ on := 31, ground := Ground.data }, { on := 28, ground := Ground.guard }], guard := some (28, false) }) (v := ?v141) rfl rfl (by kernel_rfl) (by kernel_rfl) (by kernel_rfl) (fun _ _ _ h => h) (Or.inl ⟨by rfl, ?hy141⟩) (by assumption) ?rest141
      case hy141 =>
        intro w hSw
        go_simp
        first | done | with_reducible rfl
      try simp only [Act.put, List.setIfInBounds_toArray, List.set_cons_zero, List.set_cons_succ]
      refine wpAnyH_ready (rs := [33]) (by kernel_rfl) (by simp) ?_
      refine AllReadyH.cons (o := { dst := some 106, op := Op.call { callee := Callee.value (Operand.func 56), args := #[Operand.tmp 105], argTypes := #[26] }, type := 30, pos := "ref.go:199", after := #[{ on := 32, ground := Ground.data }, { on := 28, ground := Ground.chain }, { on := 28, ground := Ground.guard }], guard := some (28, false) }) rfl (fun K hK => ?_) AllReadyH.nil
      go_simp
      refine (HSY2.out _ u5 v5 hd5.ra).mono ?_
      rintro e w6 ⟨rfl, ht6⟩
      obtain ⟨ub6, u6, v6, hd6, hu6, hb6, hc6, hf6⟩ := RPTurn.then hd5 hu5 hb5 hc5 hf5 (RPD.dturn hd5 ht6)
      obtain ⟨cap6b, hq6⟩ := hd6.pa.cells
      have t0 : w6.cell? ⟨q, 0, none⟩ = some (.pointer (some ⟨m, 0, none⟩)) := cell_at hq6 0
      have t5 : w6.cell? ⟨q, 5, none⟩ = some (.int .i64 G) := by rw [cell_at hq6 5, HG.out]; rfl
      go_wp2_with fail
      refine hK.out _ _ (⟨t0, t5⟩) (fun hHeld => ?_)
      clear hK K
      try simp only [Act.put, List.setIfInBounds_toArray, List.set_cons_zero, List.set_cons_succ]
      refine tkH (i := 34) (d := some 107) (oi := { dst := some 107, op := Op.binOp BinOp.neq 30 (Operand.tmp 106) (Operand.const (Value.int IntKind.i64 0)) 30, type := 4, pos := "ref.go:199", after := #[{ on := 33, ground := Ground.data }, { on := 28, ground := Ground.guard }], guard := some (28, false) }) (v := ?v143) rfl rfl (by kernel_rfl) (by kernel_rfl) (by kernel_rfl) (fun _ _ _ h => h) (Or.inl ⟨by rfl, ?hy143⟩) (by assumption) ?rest143
      case hy143 =>
        intro w hSw
        go_simp
        first | done | with_reducible rfl
      try simp only [Act.put, List.setIfInBounds_toArray, List.set_cons_zero, List.set_cons_succ]
      refine tkH (i := 35) (d := some 108) (oi := { dst := some 108, op := Op.pick (Operand.tmp 101) (Operand.const (Value.bool true)) (Operand.tmp 107), type := 4, pos := "ref.go:199", after := #[{ on := 28, ground := Ground.data }, { on := 34, ground := Ground.data }], guard := none }) (v := ?v144) rfl rfl (by kernel_rfl) (by kernel_rfl) (by kernel_rfl) (fun _ _ _ h => h) (Or.inl ⟨by rfl, ?hy144⟩) (by assumption) ?rest144
      case hy144 =>
        intro w hSw
        go_simp
        first | done | with_reducible rfl
      try simp only [Act.put, List.setIfInBounds_toArray, List.set_cons_zero, List.set_cons_succ]
      refine wpAnyH_done (by kernel_rfl) ?_ _
      have HD6 := hid hd6
      have HH6 := hid (show w2.heap.size ≤ w6.heap.size from hf6.size)
      have HF6 := hid ((fr_no HF2.out).trans hf6 (fun _ _ e => e))
      have HUB := hid (⟨hu6, hb6, hc6⟩ : (ub6 = ub ∨ w2.heap.size ≤ ub6) ∧ (u6 = b1 ∨ w2.heap.size ≤ u6) ∧ (v6 = b2 ∨ w2.heap.size ≤ v6))
      clear hd6 hu6 hb6 hc6 hf6 t0 t5 ht6 z0 z5 ht5 hd5 hu5 hb5 hc5 hf5 hq5 y0 y5 ht3 i0 i5 hf34 hd4 hf4 hd3 hu3 hb3 hc3 hf3 hq3 k0 k5
      have Q6 := hid hq6
      have f5 : w6.frozen? ⟨q, 5, none⟩ = false := frozen_at hq6 5
      have c5 : w6.cell? ⟨q, 5, none⟩ = some (.int .i64 G) := by rw [cell_at hq6 5, HG.out]; rfl
      have h7 := set_at hq6 5 (.int .i64 ((G : Int) + 1))
      have f3 : (w6.setCell ⟨q, 5, none⟩ (.int .i64 ((G : Int) + 1))).frozen? ⟨q, 3, none⟩ = false := frozen_at h7 3
      have c3 : (w6.setCell ⟨q, 5, none⟩ (.int .i64 ((G : Int) + 1))).cell? ⟨q, 3, none⟩ = some (.int .i64 P.root) := cell_at h7 3
      obtain ⟨W7, hW7⟩ : ∃ W, W = w6.setCell ⟨q, 5, none⟩ (.int .i64 ((G : Int) + 1)) := ⟨_, rfl⟩
      rw [← hW7] at f3 c3 h7
      have e7 : W7.heap.size = w6.heap.size := by rw [hW7]; simp [World.setCell]
      have F7 : Fr (· = q) w6 W7 := hW7 ▸ fr_set1 w6 q 5 _
      have h8 := set_at h7 3 (.int .i64 root)
      have f4 : (W7.setCell ⟨q, 3, none⟩ (.int .i64 root)).frozen? ⟨q, 4, none⟩ = false := frozen_at h8 4
      have c4 : (W7.setCell ⟨q, 3, none⟩ (.int .i64 root)).cell? ⟨q, 4, none⟩ = some (.int .i64 P.from_) := cell_at h8 4
      obtain ⟨W8, hW8⟩ : ∃ W, W = W7.setCell ⟨q, 3, none⟩ (.int .i64 root) := ⟨_, rfl⟩
      rw [← hW8] at f4 c4 h8
      have e8 : W8.heap.size = w6.heap.size := by rw [hW8]; simp [World.setCell, e7]
      have F8 : Fr (· = q) w6 W8 := F7.trans (hW8 ▸ fr_set1 W7 q 3 _) (fun _ _ e => e)
      have h9 := set_at h8 4 (.int .i64 FR)
      obtain ⟨W9, hW9⟩ : ∃ W, W = W8.setCell ⟨q, 4, none⟩ (.int .i64 FR) := ⟨_, rfl⟩
      rw [← hW9] at h9
      have e9 : W9.heap.size = w6.heap.size := by rw [hW9]; simp [World.setCell, e8]
      have F9 : Fr (· = q) w6 W9 := F8.trans (hW9 ▸ fr_set1 W8 q 4 _) (fun _ _ e => e)
      obtain ⟨pg, hpg⟩ : ∃ pg, pg = P.pages := ⟨_, rfl⟩
      have hpg2 : pg ≤ 4096 := by rw [hpg]; exact HP.out.p2
      have HPG := hid hpg
      have c2 : W9.cell? ⟨q, 2, none⟩ = some (.int .i64 pg) := by rw [cell_at h9 2, hpg]; rfl
      have hmk := mk_ints pg hpg2 W9
      have HZU := hid (zeros_use W9 pg)
      have h10 := ((Fr.refl (fun _ => False) W9).alloc (.cells (Array.replicate pg (.int .i64 0)) 3)).at h9 (fun f => f)
      have F10 : Fr (· = q) w6 (W9.alloc (.cells (Array.replicate pg (.int .i64 0)) 3)) := F9.alloc _
      obtain ⟨W10, hW10⟩ : ∃ W, W = W9.alloc (.cells (Array.replicate pg (.int .i64 0)) 3) := ⟨_, rfl⟩
      rw [← hW10] at h10 hmk F10 HZU
      have f6 : W10.frozen? ⟨q, 6, none⟩ = false := frozen_at h10 6
      have c6 : W10.cell? ⟨q, 6, none⟩ = some (.slice (some ⟨ub6, 0, none⟩) P.pages cap6b) := cell_at h10 6
      obtain ⟨B, hB⟩ : ∃ B, B = W9.heap.size := ⟨_, rfl⟩
      rw [← hB] at hmk HZU
      have hB6 : B = w6.heap.size := hB.trans e9
      have h11 := set_at h10 6 (.slice (some ⟨B, 0, none⟩) pg pg)
      have hqB : B ≠ q := by have := lt_of_at hq6; omega
      have F11 : Fr (· = q) w6 (W10.setCell ⟨q, 6, none⟩ (.slice (some ⟨B, 0, none⟩) pg pg)) := F10.trans (fr_set1 W10 q 6 _) (fun _ _ e => e)
      have HU11 := hid (HZU.out.keep (fr_set1 W10 q 6 (.slice (some ⟨B, 0, none⟩) pg pg)) hqB)
      have H11 := hid h11
      have HF11 := hid F11
      have HB6 := hid hB6
      have HQB := hid hqB
      have HW7 := hid hW7
      have HW8 := hid hW8
      have HW9 := hid hW9
      have HW10 := hid hW10
      have HB := hid hB
      clear h7 h8 h9 h10 h11 e7 e8 e9 F7 F8 F9 F10 F11 hq6 hpg hB6 hqB hW7 hW8 hW9 hW10 hB HZU
      go_upto_region 18 with fail
      rw [← HW7.out]
      go_upto_region 19 with fail
      rw [← HW8.out]
      go_upto_region 20 with fail
      rw [← HW9.out]
      go_wp2_with fail
      go_loopw [11] (fun v11 wr => ∃ x : Nat, v11 = .int .i64 x ∧ x ≤ i ∧ Hid (wr.heap[q]? = some (.cells #[.pointer (some ⟨m, 0, none⟩), .int .i64 P.first, .int .i64 pg, .int .i64 root, .int .i64 FR, .int .i64 ((G : Int) + 1), .slice (some ⟨B, 0, none⟩) pg pg, .bool P.dead] 40)) ∧ Hid (UseAt wr B pg (fun j => if (l.take x).contains (j : Int) then 1 else 0)) ∧ Hid (Fr (· = q) w6 wr)) (fun v _ => i - (intOf v).toNat)
      case atStart => exact ⟨0, rfl, by omega, hid (by rw [H11.out, HPG.out]; rfl), hid (HU11.out.congr (fun j hj => by simp)), HF11⟩
      case round =>
        obtain ⟨x, rfl, hx, HQ7, HX, HG7⟩ := hrel
        clear hmk c2 c3 c4 c5 c6 f3 f4 f5 f6
        by_cases hend : x = i
        · subst hend
          go_wp2_with fail
          go_ret
          rw [HE.out]
          have hra := RA.rp HD6.out.ra Q6.out HG7.out
          have hub := HUB.out
          have hs2 := HF2.out.size
          have hh6 := HH6.out
          have hb6 := HB6.out
          refine ⟨rfl, B, u6, v6, ⟨⟨⟨pg, ?_⟩, ?_⟩, hra⟩, Or.inr (by omega), by omega, by omega, HF6.out.trans HG7.out (fun _ _ e => Or.inl e)⟩
          · rw [HQ7.out, HPG.out]
            have e1 : ((G : Int) + 1) = ((P.gen + 1 : Nat) : Int) := by rw [HG.out]; omega
            rw [e1]
            rfl
          · show UseAt _ B P.pages _
            rw [← HPG.out]
            refine HX.out.congr (fun j hj => ?_)
            rw [HN.out, List.take_length]
            show (if l.contains (j : Int) = true then (1 : Int) else 0) = (if l.contains (j : Int) = true then 1 else 0) + (if false = true then 2 else 0)
            simp
        · have hx' : x < i := by omega
          have hxl : x < l.length := by have := HN.out; omega
          obtain ⟨b, o, rfl, hcell⟩ := HV.out.some (by omega)
          obtain ⟨b', o', e', hcell'⟩ := (HST.out wr (HF6.out.trans HG7.out (fun _ _ e => Or.inl e))).some (by omega)
          cases e'
          have hisx := HOK.out x hxl
          obtain ⟨y, hy⟩ : ∃ y, y = l.getD x 0 := ⟨_, rfl⟩
          have cx := hcell' x hx'
          rw [← hy] at hisx cx
          have hyr : 0 ≤ y ∧ y < pg := by
            rw [Bool.and_eq_true] at hisx
            have := hisx.1
            unfold PSt.is at this
            have hp := HPG.out
            simp at this
            omega
          obtain ⟨J, rfl⟩ : ∃ J : Nat, y = J := ⟨y.toNat, by omega⟩
          have hJ : J < pg := by omega
          have hJ0 : (0 : Int) ≤ (J : Int) := by omega
          have hJ1 : (J : Int) < (pg : Int) := by omega
          have hX0 : (0 : Int) ≤ (x : Int) := by omega
          have hX1 : (x : Int) < (i : Int) := by omega
          have cq : wr.cell? ⟨q, 6, none⟩ = some (.slice (some ⟨B, 0, none⟩) pg pg) := cell_at HQ7.out 6
          have cj := HX.out.cell hJ
          have zj := HX.out.frozen J
          have cxd : wr.drew.cell? ⟨b, o + x, none⟩ = some (.int .i64 (J : Int)) := cx
          have cqd : wr.drew.cell? ⟨q, 6, none⟩ = some (.slice (some ⟨B, 0, none⟩) pg pg) := cq
          have zjd : wr.drew.frozen? ⟨B, J, none⟩ = false := zj
          obtain ⟨cv, hcv⟩ : ∃ cv, cv = (if (l.take x).contains (J : Int) = true then (1 : Int) else 0) := ⟨_, rfl⟩
          rw [← hcv] at cj
          have cjd : wr.drew.cell? ⟨B, J, none⟩ = some (.int .i64 cv) := cj
          have hsetw : ∀ W : World, W.heap = wr.heap → Fr (fun _ => False) wr W → UseAt (W.setCell ⟨B, J, none⟩ (.int .i64 1)) B pg (fun j => if (l.take (x + 1)).contains (j : Int) then 1 else 0) := by
            intro W e1 hf
            refine ((HX.out.keep hf (fun f => f)).set hJ 1).congr (fun j hj => ?_)
            rw [take_contains l x hxl, ← hy]
            by_cases e2 : j = J
            · subst e2; simp
            · have e3 : ((J : Int) == (j : Int)) = false := by rw [Bool.eq_false_iff]; intro e; simp at e; omega
              rw [if_neg e2, e3, Bool.or_false]
          have HSETW := hid hsetw
          have HB6' := HB6
          clear hcv hcell hcell' hy hisx hend hsetw hyr
          go_wp2_with fail
          go_region
          all_goals
            go_wp2_with fail
            refine ⟨⟨x + 1, by go_num, by omega, hid ?_, hid (HSETW.out wr.drew rfl ((Fr.refl _ wr).drew)), hid ?_⟩, by simp [intOf]; omega⟩
            · exact (fr_set1 wr.drew B J _).at HQ7.out (fun e => HQB.out e.symm)
            · refine HG7.out.drew.setCell _ (fun h => ?_) _
              have := HB6.out
              simp at h
              omega
    · have hi' : i < n := by omega
      have hil : i < l.length := by have := HN.out; omega
      obtain ⟨b, o, rfl, hcell⟩ := HV.out.some (by omega)
      have ci := cells_stay2 HF.out (hcell i hi')
      obtain ⟨y, hy⟩ : ∃ y, y = l.getD i 0 := ⟨_, rfl⟩
      rw [← hy] at ci
      have HY := hid hy
      have HI := hid (fun q' => HIS.out (wr.drewN q') (fr_dn HF.out) y)
      have c6 : wr.cell? ⟨q, 6, none⟩ = some (.slice (some ⟨ub, 0, none⟩) P.pages cap6) := cell_at (HF.out.at H1.out (fun f => f)) 6
      obtain ⟨pg, hpg⟩ : ∃ pg, pg = P.pages := ⟨_, rfl⟩
      rw [← hpg] at c6
      clear hcell hend hy HIS HUN
      cases hb : P.is y with
      | false => exact absurd (HOK.out i hil) (by rw [← HY.out, hb]; simp)
      | true =>
        have hyr : 0 ≤ y ∧ y < pg := by unfold PSt.is at hb; rw [← hpg] at hb; simpa using hb
        obtain ⟨J, rfl⟩ : ∃ J : Nat, y = J := ⟨y.toNat, by omega⟩
        have hJ : J < pg := by omega
        have hpg2 : pg ≤ 4096 := by have := HP.out.p2; omega
        have cu := (HU.out.keep HF.out (fun f => f)).cell (i := J) (by omega)
        have hz := useOf_zero P J
        have hvv := useOf_vals P J
        obtain ⟨u, hu⟩ : ∃ u, u = useOf P J := ⟨_, rfl⟩
        rw [← hu] at cu hz hvv
        rw [hb] at HI
        have HB := hid hb
        clear hu hpg hb
        cases hb2 : P.used (J : Int) with
        | false => exact absurd (HOK.out i hil) (by rw [← HY.out, hb2]; simp)
        | true =>
          rw [hb2] at hz
          have hz : (u == 0) = false := hz
          have HA2 := hid (show okTo P l (i + 1) by
            intro b hb'
            by_cases e : b = i
            · rw [e, ← HY.out, HB.out, hb2]; rfl
            · exact HA.out b (by omega))
          have HT2 := hid (show thereTo T0 l root (i + 1) = (T || ((J : Int) == root)) by rw [HT.out, thereTo, thereTo, take_contains l i hil, HY.out, Bool.or_assoc])
          obtain ⟨E, hE⟩ : ∃ E, ((J : Int) == root) = E := ⟨_, rfl⟩
          rw [hE] at HT2
          clear hb2
          go_wp2_with fail
          go_quiet (first | (go_at_call 64; exact Calls.quiet_of_same (HI.out _)))
          cases T with
          | true =>
            go_wp2_with fail
            exact ⟨⟨i + 1, by rw [HT2.out]; rfl, by go_num, by omega, HA2, hid (fr_dn HF.out)⟩, by simp [intOf]; omega⟩
          | false =>
            cases E <;>
            · go_wp2_with fail
              exact ⟨⟨i + 1, by rw [HT2.out]; rfl, by go_num, by omega, HA2, hid (fr_dn HF.out)⟩, by simp [intOf]; omega⟩


end Go.Proofs.YtjkhcfdflcndkaaGreat.D
