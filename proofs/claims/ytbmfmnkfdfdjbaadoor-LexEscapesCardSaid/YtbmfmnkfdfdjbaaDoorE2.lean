/-
  LexEscapes: the walk. No condition but the library's variables as laid.
-/
import Derived.Test.YtbmfmnkfdfdjbaaDoorE0
import Derived.Test.YtbmfmnkfdfdjbaaDoorM3
import Derived.Test.YtbmfmnkfdfdjbaaDoorT3
import Derived.Test.YtbmfmnkfdfdjbaaDoorT6
namespace Go.Proofs.YtbmfmnkfdfdjbaaDoor.D
open Go.RowKit Go.Shelf
set_option linter.unusedVariables false
set_option linter.unusedSimpArgs false

theorem sl_hx (d : Nat) (hd : d < 16) (w : World) : (Instr.slice 9 (.string { data := #[48, 49, 50, 51, 52, 53, 54, 55, 56, 57, 97, 98, 99, 100, 101, 102] }) (some (.int .i64 (d : Int))) (some (.int .i64 ((d : Int) + 1))) none).run Tryd.prog w = .ok (.string (bs [hx d])) w := by
  have := slice_str (P := Tryd.prog) 9 Tryd.underlying9 w b16B (d : Int) ((d : Int) + 1) (by omega) (by omega) (by show _ ≤ ((16 : Nat) : Int); omega)
  rw [show ((d : Int)).toNat = d by omega, show ((d : Int) + 1).toNat - d = 1 by omega] at this
  rw [show (b16B.drop d).take 1 = [hx d] from by
    have : ∀ d : Fin 16, (b16B.drop d.1).take 1 = [hx d.1] := by decide
    exact this ⟨d, hd⟩] at this
  exact this
theorem sl_hxC (d : Nat) (hd : d < 16) (w : World) : (Instr.slice 9 (.string { data := #[48, 49, 50, 51, 52, 53, 54, 55, 56, 57, 65, 66, 67, 68, 69, 70] }) (some (.int .i64 (d : Int))) (some (.int .i64 ((d : Int) + 1))) none).run Tryd.prog w = .ok (.string (bs [hxC d])) w := by
  have := slice_str (P := Tryd.prog) 9 Tryd.underlying9 w b16C (d : Int) ((d : Int) + 1) (by omega) (by omega) (by show _ ≤ ((16 : Nat) : Int); omega)
  rw [show ((d : Int)).toNat = d by omega, show ((d : Int) + 1).toNat - d = 1 by omega] at this
  rw [show (b16C.drop d).take 1 = [hxC d] from by
    have : ∀ d : Fin 16, (b16C.drop d.1).take 1 = [hxC d.1] := by decide
    exact this ⟨d, hd⟩] at this
  exact this
theorem unit_le (n : Nat) : (unitL n).length ≤ 3 := by
  unfold unitL
  repeat' split
  all_goals simp
def escS (n : Nat) : List UInt8 := [34, 120, 92, 117, hx (n / 4096 % 16), hx (n / 256 % 16), hx (n / 16 % 16), hx (n % 16)]
def escC (n : Nat) : List UInt8 := [34, 120, 92, 117, hxC (n / 4096 % 16), hxC (n / 256 % 16), hxC (n / 16 % 16), hxC (n % 16)]
def powK (j : Nat) : Int := if j = 0 then 4096 else if j = 1 then 256 else if j = 2 then 16 else if j = 3 then 1 else 0
theorem lex_escS {n : Nat} (hn : n < 65536) : lexP (escS n ++ [121, 34]) = .ok [⟨4, [120] ++ unitL n ++ [121], 0, 10⟩] :=
  escapes_plain hn _ _ _ _ (hx_hex _) (hx_hex _) (hx_hex _) (hx_hex _) (hexV_esc hn)
theorem lex_escC {n : Nat} (hn : n < 65536) : lexP (escC n ++ [121, 34]) = .ok [⟨4, [120] ++ unitL n ++ [121], 0, 10⟩] :=
  escapes_plain hn _ _ _ _ (hxC_hex _) (hxC_hex _) (hxC_hex _) (hxC_hex _) (hexV_escC hn)

set_option maxHeartbeats 4000000 in
set_option maxRecDepth 100000 in
theorem escapes_law (w : World) (code : Int) (hc0 : -9223372036854775808 ≤ code) (hc1 : code ≤ 9223372036854775807) (hV : Vars w) (h2 : 2 < w.heap.size) :
    Calls Tryd.prog 7 #[.int .i64 code] w fun e w' => e = .returned (.bool true) ∧ Fr (fun _ => False) w w' := by
  have HT := hid (fun (W : World) (hf : Fr (fun _ => False) w W) (s : List UInt8) => tokens_c W s (hV.stay hf) (Nat.lt_of_lt_of_le h2 hf.size))
  have HFX := hid (fun (W : World) (hf : Fr (fun _ => False) w W) => fixed_c W (hV.stay hf) (Nat.lt_of_lt_of_le h2 hf.size))
  have HFX0 := hid (HFX.out w (Fr.refl _ w))
  clear hV h2
  by_cases hneg : code < 0 ∨ 65535 < code
  · as_aux_lemma =>
      have hg : (code < 0) ∨ (decide (code < 0) = false ∧ (65535 : Int) < code) := by
        by_cases h : code < 0
        · exact Or.inl h
        · exact Or.inr ⟨by simpa using h, by omega⟩
      clear hneg
      rcases hg with h1 | ⟨h1, h3⟩
      all_goals
        go_enter Tryd.func7, Tryd.ntmps7
        go_wp2_with fail
        refine HFX0.out.mono ?_
        rintro e w4 ⟨rfl, hf4⟩
        have HF4 := hid hf4
        clear hf4 HFX0
        go_wp2_with fail
        go_ret
        exact ⟨rfl, HF4.out⟩
  · obtain ⟨n, hn⟩ : ∃ n : Nat, code = (n : Int) := ⟨code.toNat, by omega⟩
    subst hn
    have hn6 : n < 65536 := by omega
    have HN := hid hn6
    have g1 : decide ((n : Int) < 0) = false := by simp
    have g2 : decide ((65535 : Int) < (n : Int)) = false := by simp; omega
    clear hneg hc0 hc1 HFX0
    go_enter Tryd.func7, Tryd.ntmps7
    go_wp2_with fail
    go_loopw [5, 6, 7] (fun v5 v6 v7 wx => ∃ j : Nat, v7 = .int .i64 (powK j) ∧ j ≤ 4 ∧ v5 = .string (bs ((escS n).take (4 + j))) ∧ v6 = .string (bs ((escC n).take (4 + j))) ∧ Hid (Fr (fun _ => False) w wx)) (fun _ _ v _ => (intOf v).toNat)
    case atStart => exact ⟨0, rfl, by omega, rfl, rfl, hid (Fr.refl _ _)⟩
    case round =>
      obtain ⟨j, rfl, hj, rfl, rfl, HF⟩ := hrel
      have hj5 : j = 0 ∨ j = 1 ∨ j = 2 ∨ j = 3 ∨ j = 4 := by omega
      rcases hj5 with rfl | rfl | rfl | rfl | rfl
      · as_aux_lemma =>
          have hd16 : n / 4096 % 16 < 16 := Nat.mod_lt _ (by decide)
          have hdi : (n : Int) / 4096 % 16 = ((n / 4096 % 16 : Nat) : Int) := by omega
          have HS := hid (show (escS n).take (4 + 1) = (escS n).take (4 + 0) ++ [hx (n / 4096 % 16)] from rfl)
          have HC := hid (show (escC n).take (4 + 1) = (escC n).take (4 + 0) ++ [hxC (n / 4096 % 16)] from rfl)
          have z1 : ((escS n).take (4 + 0)).length ≤ 8 := by simp [escS]
          have z2 : ((escC n).take (4 + 0)).length ≤ 8 := by simp [escC]
          obtain ⟨d, hd⟩ : ∃ d, d = n / 4096 % 16 := ⟨_, rfl⟩
          rw [← hd] at hd16 hdi HS HC
          have sl1 := sl_hx d hd16
          have sl2 := sl_hxC d hd16
          have hp : powK 0 = 4096 := rfl
          rw [hp]
          obtain ⟨X, hX⟩ : ∃ X, X = (escS n).take (4 + 0) := ⟨_, rfl⟩
          obtain ⟨Y, hY⟩ : ∃ Y, Y = (escC n).take (4 + 0) := ⟨_, rfl⟩
          rw [← hX] at HS z1 ⊢
          rw [← hY] at HC z2 ⊢
          have hcat1 : bs X ++ bs [hx d] = bs (X ++ [hx d]) := addBs _ _
          have hcat2 : bs Y ++ bs [hxC d] = bs (Y ++ [hxC d]) := addBs _ _
          have hq1 : X.length + 1 ≤ 9223372036854775807 := by omega
          have hq2 : Y.length + 1 ≤ 9223372036854775807 := by omega
          obtain ⟨D1, hD1⟩ : ∃ D1, D1 = [hx d] := ⟨_, rfl⟩
          obtain ⟨D2, hD2⟩ : ∃ D2, D2 = [hxC d] := ⟨_, rfl⟩
          have hl1 : D1.length = 1 := by rw [hD1]; rfl
          have hl2 : D2.length = 1 := by rw [hD2]; rfl
          rw [← hD1] at hcat1 sl1 HS
          rw [← hD2] at hcat2 sl2 HC
          clear hd hX hY hp hD1 hD2
          go_wp2_with fail
          go_quiet (fail)
          go_wp2_with fail
          go_quiet (fail)
          go_wp2_with fail
          go_roundw
          case measure => simp [intOf, powK]
          refine ⟨1, by go_num, by omega, by rw [HS.out], by rw [HC.out], hid (HF.out.trans fr_drewN (fun _ _ f => f))⟩
      · as_aux_lemma =>
          have hd16 : n / 256 % 16 < 16 := Nat.mod_lt _ (by decide)
          have hdi : (n : Int) / 256 % 16 = ((n / 256 % 16 : Nat) : Int) := by omega
          have HS := hid (show (escS n).take (4 + 2) = (escS n).take (4 + 1) ++ [hx (n / 256 % 16)] from rfl)
          have HC := hid (show (escC n).take (4 + 2) = (escC n).take (4 + 1) ++ [hxC (n / 256 % 16)] from rfl)
          have z1 : ((escS n).take (4 + 1)).length ≤ 8 := by simp [escS]
          have z2 : ((escC n).take (4 + 1)).length ≤ 8 := by simp [escC]
          obtain ⟨d, hd⟩ : ∃ d, d = n / 256 % 16 := ⟨_, rfl⟩
          rw [← hd] at hd16 hdi HS HC
          have sl1 := sl_hx d hd16
          have sl2 := sl_hxC d hd16
          have hp : powK 1 = 256 := rfl
          rw [hp]
          obtain ⟨X, hX⟩ : ∃ X, X = (escS n).take (4 + 1) := ⟨_, rfl⟩
          obtain ⟨Y, hY⟩ : ∃ Y, Y = (escC n).take (4 + 1) := ⟨_, rfl⟩
          rw [← hX] at HS z1 ⊢
          rw [← hY] at HC z2 ⊢
          have hcat1 : bs X ++ bs [hx d] = bs (X ++ [hx d]) := addBs _ _
          have hcat2 : bs Y ++ bs [hxC d] = bs (Y ++ [hxC d]) := addBs _ _
          have hq1 : X.length + 1 ≤ 9223372036854775807 := by omega
          have hq2 : Y.length + 1 ≤ 9223372036854775807 := by omega
          obtain ⟨D1, hD1⟩ : ∃ D1, D1 = [hx d] := ⟨_, rfl⟩
          obtain ⟨D2, hD2⟩ : ∃ D2, D2 = [hxC d] := ⟨_, rfl⟩
          have hl1 : D1.length = 1 := by rw [hD1]; rfl
          have hl2 : D2.length = 1 := by rw [hD2]; rfl
          rw [← hD1] at hcat1 sl1 HS
          rw [← hD2] at hcat2 sl2 HC
          clear hd hX hY hp hD1 hD2
          go_wp2_with fail
          go_quiet (fail)
          go_wp2_with fail
          go_quiet (fail)
          go_wp2_with fail
          go_roundw
          case measure => simp [intOf, powK]
          refine ⟨2, by go_num, by omega, by rw [HS.out], by rw [HC.out], hid (HF.out.trans fr_drewN (fun _ _ f => f))⟩
      · as_aux_lemma =>
          have hd16 : n / 16 % 16 < 16 := Nat.mod_lt _ (by decide)
          have hdi : (n : Int) / 16 % 16 = ((n / 16 % 16 : Nat) : Int) := by omega
          have HS := hid (show (escS n).take (4 + 3) = (escS n).take (4 + 2) ++ [hx (n / 16 % 16)] from rfl)
          have HC := hid (show (escC n).take (4 + 3) = (escC n).take (4 + 2) ++ [hxC (n / 16 % 16)] from rfl)
          have z1 : ((escS n).take (4 + 2)).length ≤ 8 := by simp [escS]
          have z2 : ((escC n).take (4 + 2)).length ≤ 8 := by simp [escC]
          obtain ⟨d, hd⟩ : ∃ d, d = n / 16 % 16 := ⟨_, rfl⟩
          rw [← hd] at hd16 hdi HS HC
          have sl1 := sl_hx d hd16
          have sl2 := sl_hxC d hd16
          have hp : powK 2 = 16 := rfl
          rw [hp]
          obtain ⟨X, hX⟩ : ∃ X, X = (escS n).take (4 + 2) := ⟨_, rfl⟩
          obtain ⟨Y, hY⟩ : ∃ Y, Y = (escC n).take (4 + 2) := ⟨_, rfl⟩
          rw [← hX] at HS z1 ⊢
          rw [← hY] at HC z2 ⊢
          have hcat1 : bs X ++ bs [hx d] = bs (X ++ [hx d]) := addBs _ _
          have hcat2 : bs Y ++ bs [hxC d] = bs (Y ++ [hxC d]) := addBs _ _
          have hq1 : X.length + 1 ≤ 9223372036854775807 := by omega
          have hq2 : Y.length + 1 ≤ 9223372036854775807 := by omega
          obtain ⟨D1, hD1⟩ : ∃ D1, D1 = [hx d] := ⟨_, rfl⟩
          obtain ⟨D2, hD2⟩ : ∃ D2, D2 = [hxC d] := ⟨_, rfl⟩
          have hl1 : D1.length = 1 := by rw [hD1]; rfl
          have hl2 : D2.length = 1 := by rw [hD2]; rfl
          rw [← hD1] at hcat1 sl1 HS
          rw [← hD2] at hcat2 sl2 HC
          clear hd hX hY hp hD1 hD2
          go_wp2_with fail
          go_quiet (fail)
          go_wp2_with fail
          go_quiet (fail)
          go_wp2_with fail
          go_roundw
          case measure => simp [intOf, powK]
          refine ⟨3, by go_num, by omega, by rw [HS.out], by rw [HC.out], hid (HF.out.trans fr_drewN (fun _ _ f => f))⟩
      · as_aux_lemma =>
          have hd16 : n % 16 < 16 := Nat.mod_lt _ (by decide)
          have hdi : (n : Int) % 16 = ((n % 16 : Nat) : Int) := by omega
          have HS := hid (show (escS n).take (4 + 4) = (escS n).take (4 + 3) ++ [hx (n % 16)] from rfl)
          have HC := hid (show (escC n).take (4 + 4) = (escC n).take (4 + 3) ++ [hxC (n % 16)] from rfl)
          have z1 : ((escS n).take (4 + 3)).length ≤ 8 := by simp [escS]
          have z2 : ((escC n).take (4 + 3)).length ≤ 8 := by simp [escC]
          obtain ⟨d, hd⟩ : ∃ d, d = n % 16 := ⟨_, rfl⟩
          rw [← hd] at hd16 hdi HS HC
          have sl1 := sl_hx d hd16
          have sl2 := sl_hxC d hd16
          have hp : powK 3 = 1 := rfl
          rw [hp]
          obtain ⟨X, hX⟩ : ∃ X, X = (escS n).take (4 + 3) := ⟨_, rfl⟩
          obtain ⟨Y, hY⟩ : ∃ Y, Y = (escC n).take (4 + 3) := ⟨_, rfl⟩
          rw [← hX] at HS z1 ⊢
          rw [← hY] at HC z2 ⊢
          have hcat1 : bs X ++ bs [hx d] = bs (X ++ [hx d]) := addBs _ _
          have hcat2 : bs Y ++ bs [hxC d] = bs (Y ++ [hxC d]) := addBs _ _
          have hq1 : X.length + 1 ≤ 9223372036854775807 := by omega
          have hq2 : Y.length + 1 ≤ 9223372036854775807 := by omega
          obtain ⟨D1, hD1⟩ : ∃ D1, D1 = [hx d] := ⟨_, rfl⟩
          obtain ⟨D2, hD2⟩ : ∃ D2, D2 = [hxC d] := ⟨_, rfl⟩
          have hl1 : D1.length = 1 := by rw [hD1]; rfl
          have hl2 : D2.length = 1 := by rw [hD2]; rfl
          rw [← hD1] at hcat1 sl1 HS
          rw [← hD2] at hcat2 sl2 HC
          clear hd hX hY hp hD1 hD2
          go_wp2_with fail
          go_quiet (fail)
          go_wp2_with fail
          go_quiet (fail)
          go_wp2_with fail
          go_roundw
          case measure => simp [intOf, powK]
          refine ⟨4, by go_num, by omega, by rw [HS.out], by rw [HC.out], hid (HF.out.trans fr_drewN (fun _ _ f => f))⟩
      · as_aux_lemma =>
          have hS : (escS n).take (4 + 4) = escS n := rfl
          have hC : (escC n).take (4 + 4) = escC n := rfl
          have hp : powK 4 = 0 := rfl
          rw [hS, hC, hp]
          have HTS := hid (HT.out wr HF.out (escS n ++ [121, 34]))
          have hcatS : bs (escS n) ++ ({ data := #[121, 34] } : ByteArray) = bs (escS n ++ [121, 34]) := addBs _ [121, 34]
          have hcatC : bs (escC n) ++ ({ data := #[121, 34] } : ByteArray) = bs (escC n ++ [121, 34]) := addBs _ [121, 34]
          have HLS := hid (lex_escS HN.out)
          have HLC := hid (lex_escC HN.out)
          have z1 : (escS n).length = 8 := rfl
          have z2 : (escC n).length = 8 := rfl
          obtain ⟨X, hX⟩ : ∃ X, X = escS n := ⟨_, rfl⟩
          obtain ⟨Y, hY⟩ : ∃ Y, Y = escC n := ⟨_, rfl⟩
          rw [← hX] at hcatS HTS HLS z1 ⊢
          rw [← hY] at hcatC HLC z2 ⊢
          clear hX hY hS hC hp g1 g2
          go_wp2_with fail
          refine HTS.out.mono ?_
          intro e w2 hp
          obtain ⟨v1, rfl, hv1, hf1⟩ := tks_ok hp HLS.out
          obtain ⟨A1, n1, rfl, hn1, hA1⟩ := hv1
          obtain ⟨ga, oa, rfl, hga⟩ := hA1.resolve_left (by intro e; cases e)
          have HF2 := hid (HF.out.trans hf1 (fun _ _ f => f))
          have HA := hid (hga 0 _ rfl)
          have HN1 := hid hn1
          have HTC := hid (HT.out w2 HF2.out (Y ++ [121, 34]))
          clear hp hf1 HTS hga hA1 hn1
          go_wp2_with fail
          refine HTC.out.mono ?_
          intro e w3 hp
          obtain ⟨v2, rfl, hv2, hf2⟩ := tks_ok hp HLC.out
          obtain ⟨A2, n2, rfl, hn2, hA2⟩ := hv2
          obtain ⟨gc, oc, rfl, hgc⟩ := hA2.resolve_left (by intro e; cases e)
          have HF3 := hid (HF2.out.trans hf2 (fun _ _ f => f))
          have HA3 := hid (HA.out.stay hf2)
          have HB3 := hid (hgc 0 _ rfl)
          have HN2 := hid hn2
          clear hp hf2 HTC hgc hA2 hn2
          have HFX3 := hid (show ∀ W, Fr (fun _ => False) w3 W → Calls Tryd.prog 11 #[] W fun e w' => e = .returned (.bool true) ∧ Fr (fun _ => False) w3 w' from fun W hf => (HFX.out W (HF3.out.trans hf (fun _ _ f => f))).mono (by rintro e w' ⟨h1, h2⟩; exact ⟨h1, hf.trans h2 (fun _ _ f => f)⟩))
          have HSM3 := hid (show ∀ W, Fr (fun _ => False) w3 W → Calls Tryd.prog 13 #[.slice (some ⟨ga, oa, none⟩) 1 n1, .slice (some ⟨gc, oc, none⟩) 1 n2] W fun e w' => e = .returned (.bool true) ∧ Fr (fun _ => False) w3 w' from fun W hf => by
            have := same_c W _ _ _ (TV.one (HA3.out.stay hf) HN1.out) (TV.one (HB3.out.stay hf) HN2.out) (by simp)
            refine this.mono ?_
            rintro e w' ⟨h1, h2⟩
            exact ⟨h1, hf.trans h2 (fun _ _ f => f)⟩)
          have HUN3 := hid (show ∀ W, Fr (fun _ => False) w3 W → Calls Tryd.prog 8 #[.int .i64 n] W fun e w' => e = .returned (.string (bs (unitL n))) ∧ Fr (fun _ => False) w3 w' from fun W hf => (unit_c W n HN.out).mono (by rintro e w' ⟨h1, h2⟩; exact ⟨h1, hf.trans h2 (fun _ _ f => f)⟩))
          have hcat1 : ({ data := #[120] } : ByteArray) ++ bs (unitL n) = bs ([120] ++ unitL n) := addBs [120] _
          have hcat2 : bs ([120] ++ unitL n) ++ ({ data := #[121] } : ByteArray) = bs ([120] ++ unitL n ++ [121]) := addBs _ [121]
          have hul : (unitL n).length ≤ 3 := unit_le n
          have hld : w3.cell? ⟨ga, oa + 1, none⟩ = some (.string (bs ([120] ++ unitL n ++ [121]))) := HA3.out.2.1
          have hu1 : ([120] ++ unitL n).length ≤ 4 := by simp; omega
          obtain ⟨U, hU⟩ : ∃ U, U = unitL n := ⟨_, rfl⟩
          rw [← hU] at HUN3 hcat1 hcat2 hul hu1 hld
          obtain ⟨U1, hU1⟩ : ∃ U1, U1 = [120] ++ U := ⟨_, rfl⟩
          rw [← hU1] at hcat1 hcat2 hu1 hld
          obtain ⟨U2, hU2⟩ : ∃ U2, U2 = U1 ++ [121] := ⟨_, rfl⟩
          rw [← hU2] at hcat2 hld
          have hqa : 1 + U.length ≤ 9223372036854775807 := by omega
          have hqb : U1.length + 1 ≤ 9223372036854775807 := by omega
          have hqc : (U2 == U2) = true := by simp
          have hqd : ¬ 9223372036854775807 < 1 + U.length := by omega
          have hqe : ¬ 9223372036854775807 < U1.length + 1 := by omega
          have hop1 : ∀ w, (Op.stringOp .add { data := #[120] } (bs U)).run Tryd.prog w = .ok (.string (bs U1)) w := fun w => by
            rw [run_string_add_sum w { data := #[120] } (bs U) (show 1 + (bs U).size ≤ 9223372036854775807 by rw [size_bs]; exact hqa), hcat1]
          have hop2 : ∀ w, (Op.stringOp .add (bs U1) { data := #[121] }).run Tryd.prog w = .ok (.string (bs U2)) w := fun w => by
            rw [run_string_add_sum w (bs U1) { data := #[121] } (show (bs U1).size + 1 ≤ 9223372036854775807 by rw [size_bs]; exact hqb), hcat2]
          clear hU hU1 hU2
          go_upto_region 12 with fail
          go_region_held3 (fun w' => w'.cell? ⟨ga, oa + 1, none⟩ = some (.string (bs U2)) ∧ Fr (fun _ => False) w3 w')
            (first | exact ⟨hld, (Fr.refl _ _).drew⟩ | exact ⟨cells_stay2 (by assumption) hld, by assumption⟩ | go_keep)
            (first
              | (go_at_call 11; refine (HFX3.out _ (by first | assumption | exact (Fr.refl _ _).drew)).mono ?_; rintro e w' ⟨rfl, hf'⟩)
              | (go_at_call 13; refine (HSM3.out _ (by first | assumption | exact (Fr.refl _ _).drew)).mono ?_; rintro e w' ⟨rfl, hf'⟩)
              | (go_at_call 8; refine (HUN3.out _ (by first | assumption | exact (Fr.refl _ _).drew)).mono ?_; rintro e w' ⟨rfl, hf'⟩))
          rename_i hS
          have HF9 := hid (HF3.out.trans hS.2 (fun _ _ f => f))
          clear hS
          go_wp2_with fail
          go_ret
          exact ⟨rfl, HF9.out⟩

end Go.Proofs.YtbmfmnkfdfdjbaaDoor.D
