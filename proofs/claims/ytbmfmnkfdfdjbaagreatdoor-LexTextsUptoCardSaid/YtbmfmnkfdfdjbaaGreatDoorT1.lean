/-
  Quote: what it writes. No condition beyond the sizes that are named.
-/
import Derived.Test.YtbmfmnkfdfdjbaaGreatDoorLA
import Derived.OwnWalk
namespace Go.Proofs.YtbmfmnkfdfdjbaaGreatDoor.D
open Go.RowKit Go.Shelf
set_option linter.unusedVariables false
set_option linter.unusedSimpArgs false

/-- The number that three bytes tell; none: they tell none of those that are no characters. -/
def loneC (l : List UInt8) : Bool := decide (3 ≤ l.length) && (decide ((pk l 0).toNat = 237) && (decide (160 ≤ (pk l 1).toNat) && (decide ((pk l 1).toNat ≤ 191) && (decide (128 ≤ (pk l 2).toNat) && decide ((pk l 2).toNat ≤ 191)))))
def loneN (l : List UInt8) : Nat := 53248 + (pk l 1).toNat % 64 * 64 + (pk l 2).toNat % 64
def LonePost (w : World) (l : List UInt8) (e : Ending) (w' : World) : Prop := Fr (fun _ => False) w w' ∧ e = .returned (.tuple #[.int .i64 (if loneC l then loneN l else 0 : Nat), .bool (loneC l)])
theorem lone_no {w w' : World} {l : List UInt8} (h : loneC l = false) (hf : Fr (fun _ => False) w w') : LonePost w l (.returned (.tuple #[.int .i64 0, .bool false])) w' := ⟨hf, by rw [h]; rfl⟩

theorem and8_63 (a : Nat) (ha : a < 256) : bits .and .u8 (a : Int) 63 = ((a % 64 : Nat) : Int) := by
  have h1 : (BitVec.ofInt 8 (a : Int)).toNat = a := by
    rw [BitVec.ofInt_natCast, BitVec.toNat_ofNat]; exact Nat.mod_eq_of_lt (by omega)
  have h2 : (BitVec.ofInt 8 63).toNat = 63 := by decide
  show IntKind.u8.wrap ((BitVec.ofInt 8 (a : Int) &&& BitVec.ofInt 8 63).toNat : Int) = _
  rw [BitVec.toNat_and, h1, h2, show (63 : Nat) = 2 ^ 6 - 1 by rfl, Nat.and_two_pow_sub_one_eq_mod]
  simp [IntKind.wrap, IntKind.bits, IntKind.signed]
  omega
theorem or_64 (a b : Nat) (ha : a < 65536) (hb : b < 64) : bits .or .i64 ((a * 64 : Nat) : Int) (b : Int) = ((a * 64 + b : Nat) : Int) := by
  have h1 : (BitVec.ofInt 64 ((a * 64 : Nat) : Int)).toNat = a * 64 := by
    rw [BitVec.ofInt_natCast, BitVec.toNat_ofNat]; exact Nat.mod_eq_of_lt (by omega)
  have h2 : (BitVec.ofInt 64 (b : Int)).toNat = b := by
    rw [BitVec.ofInt_natCast, BitVec.toNat_ofNat]; exact Nat.mod_eq_of_lt (by omega)
  show IntKind.i64.wrap ((BitVec.ofInt 64 ((a * 64 : Nat) : Int) ||| BitVec.ofInt 64 (b : Int)).toNat : Int) = _
  rw [BitVec.toNat_or, h1, h2]
  have h3 := Nat.two_pow_add_eq_or_of_lt (i := 6) (b := b) (by omega) a
  rw [show a * 64 = 2 ^ 6 * a by omega, ← h3, IntKind.wrap_i64]
  omega
theorem or_4096 (a : Nat) (ha : a < 64) : bits .or .i64 53248 ((a * 64 : Nat) : Int) = ((53248 + a * 64 : Nat) : Int) := by
  have h1 : (BitVec.ofInt 64 ((a * 64 : Nat) : Int)).toNat = a * 64 := by
    rw [BitVec.ofInt_natCast, BitVec.toNat_ofNat]; exact Nat.mod_eq_of_lt (by omega)
  have h2 : (BitVec.ofInt 64 53248).toNat = 53248 := by decide
  show IntKind.i64.wrap ((BitVec.ofInt 64 53248 ||| BitVec.ofInt 64 ((a * 64 : Nat) : Int)).toNat : Int) = _
  rw [BitVec.toNat_or, h1, h2]
  have h3 := Nat.two_pow_add_eq_or_of_lt (i := 12) (b := a * 64) (by omega) 13
  rw [show 53248 = 2 ^ 12 * 13 by rfl, ← h3, IntKind.wrap_i64]
  omega

set_option maxRecDepth 100000 in
set_option maxHeartbeats 1000000 in
theorem lone_c (w : World) (l : List UInt8) : Calls Tryz.prog 18 #[.string (bs l)] w (LonePost w l) := by
  have hz := size_bs l
  by_cases h3 : l.length < 3
  · have h3' : (l.length : Int) < 3 := by omega
    have HN := hid (show loneC l = false by unfold loneC; rw [decide_eq_false (by omega)]; rfl)
    clear h3
    go_enter Tryz.func18, Tryz.ntmps18
    go_wp2_with fail
    go_ret2
    exact lone_no HN.out (Fr.refl _ _)
  have h3' : decide ((l.length : Int) < 3) = false := by simp; omega
  have hx0 : ∀ w, (Instr.index 9 (.string (bs l)) (.int .i64 0)).run Tryz.prog w = .ok (.int .u8 ((pk l 0).toNat : Int)) w := fun w => idx_bs _ Tryz.underlying9 w l 0 0 rfl (by omega)
  have hx1 : ∀ w, (Instr.index 9 (.string (bs l)) (.int .i64 1)).run Tryz.prog w = .ok (.int .u8 ((pk l 1).toNat : Int)) w := fun w => idx_bs _ Tryz.underlying9 w l 1 1 rfl (by omega)
  have hx2 : ∀ w, (Instr.index 9 (.string (bs l)) (.int .i64 2)).run Tryz.prog w = .ok (.int .u8 ((pk l 2).toNat : Int)) w := fun w => idx_bs _ Tryz.underlying9 w l 2 2 rfl (by omega)
  have HL := hid (show loneC l = (decide ((pk l 0).toNat = 237) && (decide (160 ≤ (pk l 1).toNat) && (decide ((pk l 1).toNat ≤ 191) && (decide (128 ≤ (pk l 2).toNat) && decide ((pk l 2).toNat ≤ 191))))) by unfold loneC; rw [decide_eq_true (by omega)]; rfl)
  have HM := hid (show loneN l = 53248 + (pk l 1).toNat % 64 * 64 + (pk l 2).toNat % 64 from rfl)
  have b0 := UInt8.toNat_lt (pk l 0)
  have b1 := UInt8.toNat_lt (pk l 1)
  have b2 := UInt8.toNat_lt (pk l 2)
  obtain ⟨v0, hv0⟩ : ∃ v, v = (pk l 0).toNat := ⟨_, rfl⟩
  obtain ⟨v1, hv1⟩ : ∃ v, v = (pk l 1).toNat := ⟨_, rfl⟩
  obtain ⟨v2, hv2⟩ : ∃ v, v = (pk l 2).toNat := ⟨_, rfl⟩
  rw [← hv0] at hx0 HL b0
  rw [← hv1] at hx1 HL HM b1
  rw [← hv2] at hx2 HL HM b2
  clear hv0 hv1 hv2 h3
  by_cases c0 : v0 = 237
  case neg =>
    have HN := hid (show loneC l = false by rw [HL.out, decide_eq_false c0]; rfl)
    have e0 : ((v0 : Int) != 237) = true := by simp; omega
    clear c0
    go_enter Tryz.func18, Tryz.ntmps18
    go_wp2_with fail
    go_ret2
    exact lone_no HN.out (Fr.refl _ _)
  have e0 : ((v0 : Int) != 237) = false := by simp; omega
  by_cases c1 : v1 < 160
  · have HN := hid (show loneC l = false by rw [HL.out, decide_eq_false (p := 160 ≤ v1) (by omega)]; simp)
    have e1 : (v1 : Int) < 160 := by omega
    clear c0 c1
    go_enter Tryz.func18, Tryz.ntmps18
    go_wp2_with fail
    go_ret2
    exact lone_no HN.out (Fr.refl _ _)
  have e1 : decide ((v1 : Int) < 160) = false := by simp; omega
  by_cases c2 : 191 < v1
  · have HN := hid (show loneC l = false by rw [HL.out, decide_eq_false (p := v1 ≤ 191) (by omega)]; simp)
    have e2 : (191 : Int) < (v1 : Int) := by omega
    clear c0 c1 c2
    go_enter Tryz.func18, Tryz.ntmps18
    go_wp2_with fail
    go_ret2
    exact lone_no HN.out (Fr.refl _ _)
  have e2 : decide ((191 : Int) < (v1 : Int)) = false := by simp; omega
  by_cases c3 : v2 < 128
  · have HN := hid (show loneC l = false by rw [HL.out, decide_eq_false (p := 128 ≤ v2) (by omega)]; simp)
    have e3 : (v2 : Int) < 128 := by omega
    clear c0 c1 c2 c3
    go_enter Tryz.func18, Tryz.ntmps18
    go_wp2_with fail
    go_ret2
    exact lone_no HN.out (Fr.refl _ _)
  have e3 : decide ((v2 : Int) < 128) = false := by simp; omega
  by_cases c4 : 191 < v2
  · have HN := hid (show loneC l = false by rw [HL.out, decide_eq_false (p := v2 ≤ 191) (by omega)]; simp)
    have e4 : (191 : Int) < (v2 : Int) := by omega
    clear c0 c1 c2 c3 c4
    go_enter Tryz.func18, Tryz.ntmps18
    go_wp2_with fail
    go_ret2
    exact lone_no HN.out (Fr.refl _ _)
  have e4 : decide ((191 : Int) < (v2 : Int)) = false := by simp; omega
  have HN := hid (show loneC l = true by rw [HL.out]; simp; omega)
  have a1 := and8_63 v1 b1
  have a2 := and8_63 v2 b2
  have m1 : v1 % 64 < 64 := Nat.mod_lt _ (by decide)
  have m2 : v2 % 64 < 64 := Nat.mod_lt _ (by decide)
  obtain ⟨n1, hn1⟩ : ∃ n, n = v1 % 64 := ⟨_, rfl⟩
  obtain ⟨n2, hn2⟩ : ∃ n, n = v2 % 64 := ⟨_, rfl⟩
  rw [← hn1] at a1 m1 HM
  rw [← hn2] at a2 m2 HM
  clear hn1 hn2 c0 c1 c2 c3 c4
  go_enter Tryz.func18, Tryz.ntmps18
  go_wp2_with fail
  go_quiet (fail)
  go_wp2_with fail
  go_ret2
  refine ⟨fr_drewN, ?_⟩
  rw [HN.out, if_pos rfl, HM.out]
  exact congrArg (fun z => Ending.returned (.tuple #[.int .i64 z, .bool true])) (by
    have q1 := or_4096 n1 m1
    have q2 := or_64 (832 + n1) n2 (by omega) m2
    rw [show ((n1 : Int) * 64) = ((n1 * 64 : Nat) : Int) by omega, q1, show 53248 + n1 * 64 = (832 + n1) * 64 by omega, q2])

/-! ### an escape -/
def b16B : List UInt8 := [48, 49, 50, 51, 52, 53, 54, 55, 56, 57, 97, 98, 99, 100, 101, 102]
def hx (d : Nat) : UInt8 := pk b16B d
def esc4 (n : Nat) : List UInt8 := [92, 117, hx (n / 4096 % 16), hx (n / 256 % 16), hx (n / 16 % 16), hx (n % 16)]
theorem and_15 (a : Nat) (ha : a < 65536) : bits .and .i64 (a : Int) 15 = ((a % 16 : Nat) : Int) := by
  have h1 : (BitVec.ofInt 64 (a : Int)).toNat = a := by
    rw [BitVec.ofInt_natCast, BitVec.toNat_ofNat]; exact Nat.mod_eq_of_lt (by omega)
  have h2 : (BitVec.ofInt 64 15).toNat = 15 := by decide
  show IntKind.i64.wrap ((BitVec.ofInt 64 (a : Int) &&& BitVec.ofInt 64 15).toNat : Int) = _
  rw [BitVec.toNat_and, h1, h2, show (15 : Nat) = 2 ^ 4 - 1 by rfl, Nat.and_two_pow_sub_one_eq_mod, IntKind.wrap_i64]
  omega
theorem hx_run (d : Nat) (hd : d < 16) (w : World) : (Instr.index 9 (.string { data := #[48, 49, 50, 51, 52, 53, 54, 55, 56, 57, 97, 98, 99, 100, 101, 102] }) (.int .i64 (d : Int))).run Tryz.prog w = .ok (.int .u8 ((hx d).toNat : Int)) w := idx_bs _ Tryz.underlying9 w b16B (d : Int) d rfl hd

/-- What a call of the closure that writes an escape does. -/
def EscW (w : World) (B b : Nat) (acc : List UInt8) (n : Nat) (e : Ending) (w' : World) : Prop := e = .returned (.tuple #[]) ∧ Bd w' B b (acc ++ esc4 n) ∧ Below B w w'
theorem bd_below {w w' w'' : World} {B : Nat} (h1 : Below B w w') (h2 : Below B w' w'') : Below B w w'' := h1.trans h2

set_option maxRecDepth 100000 in
set_option maxHeartbeats 1000000 in
theorem esc4_c (w : World) (B b : Nat) (acc : List UInt8) (n : Nat) (h : Bd w B b acc) (hlen : acc.length ≤ 99999000) (hB : B ≤ w.heap.size) (hn : n < 65536) :
    Calls Tryz.prog 15 #[.int .i64 n, .pointer (some ⟨b, 0, none⟩)] w (EscW w B b acc n) := by
  have HW1 := hid (wstr_c w B b acc [92, 117] h (by simp; omega) hB)
  have HB := hid hB
  have HL := hid hlen
  clear h hB hlen
  go_enter Tryz.func15, Tryz.ntmps15
  go_wp2_with fail
  refine HW1.out.mono ?_
  rintro e w2 ⟨rfl, hb2, hl2⟩
  have HB2 := hid hb2
  have HL2 := hid hl2
  clear hb2 hl2 HW1
  go_wp2_with fail
  go_loopw [3] (fun v wx => ∃ j : Nat, v = .int .i64 (12 - 4 * (j : Int)) ∧ j ≤ 4 ∧ Hid (Bd wx B b (acc ++ (esc4 n).take (2 + j))) ∧ Hid (Below B w wx)) (fun v _ => (intOf v + 4).toNat)
  case atStart => exact ⟨0, rfl, by omega, HB2, HL2⟩
  case round =>
    obtain ⟨j, rfl, hj, HA, HF⟩ := hrel
    have hBw : B ≤ wr.heap.size := Nat.le_trans HB.out HF.out.size
    have e4 : (esc4 n).length = 6 := rfl
    have hlen : ∀ c : UInt8, (acc ++ (esc4 n).take (2 + j)).length + 1 ≤ 100000000 := fun c => by
      have := HL.out
      rw [List.length_append, List.length_take]
      omega
    have HWB := hid (fun c => wbyte_c wr B b _ c HA.out (hlen c) hBw)
    clear hBw hlen
    have hj5 : j = 0 ∨ j = 1 ∨ j = 2 ∨ j = 3 ∨ j = 4 := by omega
    rcases hj5 with rfl | rfl | rfl | rfl | rfl
    · have ha : bits .and .i64 ((n : Int) / 4096) 15 = ((n / 4096 % 16 : Nat) : Int) := by
        have := and_15 (n / 4096) (by omega)
        rwa [show ((n / 4096 : Nat) : Int) = (n : Int) / 4096 by omega] at this
      have hm : n / 4096 % 16 < 16 := Nat.mod_lt _ (by decide)
      have HT := hid (show (esc4 n).take (2 + 1) = (esc4 n).take (2 + 0) ++ [hx (n / 4096 % 16)] from rfl)
      obtain ⟨d, hd⟩ : ∃ d, d = n / 4096 % 16 := ⟨_, rfl⟩
      rw [← hd] at ha hm HT
      have hx1 := hx_run d hm
      have HWD := hid (HWB.out (hx d))
      obtain ⟨c, hc⟩ : ∃ c : Int, c = ((hx d).toNat : Int) := ⟨_, rfl⟩
      rw [← hc] at hx1 HWD
      clear hd hc HWB
      go_wp2_with fail
      refine HWD.out.mono ?_
      rintro e w3 ⟨rfl, hb3, hl3⟩
      have HB3 := hid hb3
      have HL3 := hid (HF.out.trans hl3)
      clear hb3 hl3 HWD
      go_wp2_with fail
      go_roundw
      case measure => simp [intOf]
      refine ⟨1, by go_num, by omega, hid ?_, HL3⟩
      rw [HT.out, ← List.append_assoc]
      exact HB3.out
    · have ha : bits .and .i64 ((n : Int) / 256) 15 = ((n / 256 % 16 : Nat) : Int) := by
        have := and_15 (n / 256) (by omega)
        rwa [show ((n / 256 : Nat) : Int) = (n : Int) / 256 by omega] at this
      have hm : n / 256 % 16 < 16 := Nat.mod_lt _ (by decide)
      have HT := hid (show (esc4 n).take (2 + 2) = (esc4 n).take (2 + 1) ++ [hx (n / 256 % 16)] from rfl)
      obtain ⟨d, hd⟩ : ∃ d, d = n / 256 % 16 := ⟨_, rfl⟩
      rw [← hd] at ha hm HT
      have hx1 := hx_run d hm
      have HWD := hid (HWB.out (hx d))
      obtain ⟨c, hc⟩ : ∃ c : Int, c = ((hx d).toNat : Int) := ⟨_, rfl⟩
      rw [← hc] at hx1 HWD
      clear hd hc HWB
      go_wp2_with fail
      refine HWD.out.mono ?_
      rintro e w3 ⟨rfl, hb3, hl3⟩
      have HB3 := hid hb3
      have HL3 := hid (HF.out.trans hl3)
      clear hb3 hl3 HWD
      go_wp2_with fail
      go_roundw
      case measure => simp [intOf]
      refine ⟨2, by go_num, by omega, hid ?_, HL3⟩
      rw [HT.out, ← List.append_assoc]
      exact HB3.out
    · have ha : bits .and .i64 ((n : Int) / 16) 15 = ((n / 16 % 16 : Nat) : Int) := by
        have := and_15 (n / 16) (by omega)
        rwa [show ((n / 16 : Nat) : Int) = (n : Int) / 16 by omega] at this
      have hm : n / 16 % 16 < 16 := Nat.mod_lt _ (by decide)
      have HT := hid (show (esc4 n).take (2 + 3) = (esc4 n).take (2 + 2) ++ [hx (n / 16 % 16)] from rfl)
      obtain ⟨d, hd⟩ : ∃ d, d = n / 16 % 16 := ⟨_, rfl⟩
      rw [← hd] at ha hm HT
      have hx1 := hx_run d hm
      have HWD := hid (HWB.out (hx d))
      obtain ⟨c, hc⟩ : ∃ c : Int, c = ((hx d).toNat : Int) := ⟨_, rfl⟩
      rw [← hc] at hx1 HWD
      clear hd hc HWB
      go_wp2_with fail
      refine HWD.out.mono ?_
      rintro e w3 ⟨rfl, hb3, hl3⟩
      have HB3 := hid hb3
      have HL3 := hid (HF.out.trans hl3)
      clear hb3 hl3 HWD
      go_wp2_with fail
      go_roundw
      case measure => simp [intOf]
      refine ⟨3, by go_num, by omega, hid ?_, HL3⟩
      rw [HT.out, ← List.append_assoc]
      exact HB3.out
    · have ha : bits .and .i64 ((n : Int)) 15 = ((n % 16 : Nat) : Int) := by
        have := and_15 (n) (by omega)
        rwa [show ((n : Nat) : Int) = (n : Int) by omega] at this
      have hm : n % 16 < 16 := Nat.mod_lt _ (by decide)
      have HT := hid (show (esc4 n).take (2 + 4) = (esc4 n).take (2 + 3) ++ [hx (n % 16)] from rfl)
      obtain ⟨d, hd⟩ : ∃ d, d = n % 16 := ⟨_, rfl⟩
      rw [← hd] at ha hm HT
      have hx1 := hx_run d hm
      have HWD := hid (HWB.out (hx d))
      obtain ⟨c, hc⟩ : ∃ c : Int, c = ((hx d).toNat : Int) := ⟨_, rfl⟩
      rw [← hc] at hx1 HWD
      clear hd hc HWB
      go_wp2_with fail
      refine HWD.out.mono ?_
      rintro e w3 ⟨rfl, hb3, hl3⟩
      have HB3 := hid hb3
      have HL3 := hid (HF.out.trans hl3)
      clear hb3 hl3 HWD
      go_wp2_with fail
      go_roundw
      case measure => simp [intOf]
      refine ⟨4, by go_num, by omega, hid ?_, HL3⟩
      rw [HT.out, ← List.append_assoc]
      exact HB3.out
    · clear HWB
      go_wp2_with fail
      go_end0
      exact ⟨rfl, HA.out, HF.out⟩

end Go.Proofs.YtbmfmnkfdfdjbaaGreatDoor.D
