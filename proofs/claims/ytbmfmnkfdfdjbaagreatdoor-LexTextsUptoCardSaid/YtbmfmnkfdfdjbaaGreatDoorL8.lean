/-
  A number's character, or its three bytes; what an escape says. No condition beyond the sizes that are named.
-/
import Derived.Test.YtbmfmnkfdfdjbaaGreatDoorL7
import Derived.Test.YtbmfmnkfdfdjbaaGreatDoorL6
namespace Go.Proofs.YtbmfmnkfdfdjbaaGreatDoor.D
open Go.RowKit Go.Shelf
set_option linter.unusedVariables false
set_option linter.unusedSimpArgs false

set_option maxRecDepth 100000 in
theorem pint_c (w : World) (l : List UInt8) (h1 : 1 ≤ l.length) (h4 : l.length ≤ 4) (hh : ∀ j, j < l.length → hexB.contains (pk l j) = true) :
    Calls Tryz.prog 73 #[.string (bs l), .int .i64 16, .int .i64 32] w fun e w' => e = .returned (.tuple #[.int .u64 (hexV l), .nilIface]) ∧ Fr (fun _ => False) w w' := by
  have HC := hid (iparse_c w l h1 h4 hh)
  obtain ⟨V, hV⟩ : ∃ V : Int, V = (hexV l : Int) := ⟨_, rfl⟩
  rw [← hV] at HC ⊢
  clear hV hh h1 h4
  go_enter Tryz.func73, Tryz.ntmps73
  go_wp2_with fail
  refine HC.out.mono ?_
  rintro e w2 ⟨rfl, hf⟩
  have HF := hid hf
  clear hf
  go_wp2_with fail
  go_ret2
  exact ⟨rfl, HF.out⟩

/-- A number's bytes: its character's, or three. -/
def unitL (n : Nat) : List UInt8 :=
  if n < 128 then [UInt8.ofNat n] else if n < 2048 then [UInt8.ofNat (192 + n / 64), UInt8.ofNat (128 + n % 64)]
  else [UInt8.ofNat (224 + n / 4096), UInt8.ofNat (128 + n / 64 % 64), UInt8.ofNat (128 + n % 64)]
def isSur (n : Nat) : Bool := decide (55296 ≤ n) && decide (n ≤ 57343)
theorem valid_sur {n : Nat} (hn : n < 65536) : Lib.validRune (n : Int) = !isSur n := by
  unfold Lib.validRune isSur
  by_cases h1 : 55296 ≤ n
  · by_cases h2 : n ≤ 57343
    · rw [decide_eq_true h1, decide_eq_true h2]
      simp
      omega
    · rw [decide_eq_false h2]
      simp
      omega
  · rw [decide_eq_false h1]
    simp
    omega
theorem encode_unit {n : Nat} (hn : n < 65536) (h : isSur n = false) : Utf8.encode (n : Int) = bs (unitL n) := by
  have hv : Utf8.valid (n : Int) = true := by
    unfold isSur at h
    simp at h
    unfold Utf8.valid
    simp
    omega
  unfold Utf8.encode unitL
  rw [if_pos hv]
  simp only [Int.toNat_natCast]
  by_cases h1 : n < 128
  · rw [if_pos h1, if_pos h1]
  · rw [if_neg h1, if_neg h1]
    by_cases h2 : n < 2048
    · rw [if_pos h2, if_pos h2]
    · rw [if_neg h2, if_neg h2, if_pos hn]

set_option maxRecDepth 100000 in
theorem put_c (w : World) (n : Nat) (hn : n < 65536) :
    Calls Tryz.prog 74 #[.int .i64 n] w fun e w' => e = .returned (.tuple #[.string (bs (if isSur n then [] else unitL n)), .int .i64 (if isSur n then 10 else 0)]) ∧ w' = w := by
  have HC := hid (fun W => Tryz.utf8_ValidRune (n : Int) W)
  have h0 : decide ((n : Int) < 0) = false := by simp
  have h1 : decide ((1114111 : Int) < (n : Int)) = false := by simp; omega
  rw [valid_sur hn] at HC
  have HE := hid (fun h => encode_unit hn h)
  have hwi : IntKind.i32.wrap (n : Int) = (n : Int) := by rw [IntKind.wrap_i32]; omega
  obtain ⟨U, hU⟩ : ∃ U, U = unitL n := ⟨_, rfl⟩
  obtain ⟨b, hb⟩ : ∃ b, b = isSur n := ⟨_, rfl⟩
  rw [← hb, ← hU] at HE ⊢
  rw [← hb] at HC
  obtain ⟨N, hN⟩ : ∃ N : Int, N = (n : Int) := ⟨_, rfl⟩
  rw [← hN] at HC HE h0 h1 hwi ⊢
  clear hb hU hn hN
  go_enter Tryz.func74, Tryz.ntmps74
  go_wp2_with fail
  refine (HC.out _).mono ?_
  rintro e w2 ⟨rfl, rfl⟩
  cases b with
  | false =>
    go_wp2_with fail
    go_ret2
    exact ⟨by have h := HE.out trivial; show Ending.returned (.tuple #[.string (Utf8.encode N), .int .i64 0]) = _; rw [h], rfl⟩
  | true =>
    go_wp2_with fail
    go_ret2
    exact ⟨rfl, rfl⟩

theorem and_63 (a : Nat) (ha : a < 65536) : bits .and .i64 (a : Int) 63 = ((a % 64 : Nat) : Int) := by
  have h1 : (BitVec.ofInt 64 (a : Int)).toNat = a := by
    rw [BitVec.ofInt_natCast, BitVec.toNat_ofNat]; exact Nat.mod_eq_of_lt (by omega)
  have h2 : (BitVec.ofInt 64 63).toNat = 63 := by decide
  show IntKind.i64.wrap ((BitVec.ofInt 64 (a : Int) &&& BitVec.ofInt 64 63).toNat : Int) = _
  rw [BitVec.toNat_and, h1, h2, show (63 : Nat) = 2 ^ 6 - 1 by rfl, Nat.and_two_pow_sub_one_eq_mod, IntKind.wrap_i64]
  omega

set_option maxRecDepth 100000 in
theorem three_c (w : World) (n : Nat) (hn : n < 65536) (h : isSur n = true) :
    Calls Tryz.prog 75 #[.int .i64 n] w fun e w' => e = .returned (.string (bs (unitL n))) ∧ Fr (fun _ => False) w w' := by
  have h1 : 55296 ≤ n ∧ n ≤ 57343 := by unfold isSur at h; simpa using h
  have hb1 := and_63 (n / 64) (by omega)
  have hb2 := and_63 n hn
  have hU : unitL n = [UInt8.ofNat (224 + n / 4096), UInt8.ofNat (128 + n / 64 % 64), UInt8.ofNat (128 + n % 64)] := by
    unfold unitL
    rw [if_neg (by omega), if_neg (by omega)]
  rw [hU]
  have e0 : (((n / 64 : Nat) : Int)) = (n : Int) / 64 := by omega
  rw [e0] at hb1
  have hm1 : n / 64 % 64 < 64 := Nat.mod_lt _ (by decide)
  have hm2 : n % 64 < 64 := Nat.mod_lt _ (by decide)
  obtain ⟨m1, hm1'⟩ : ∃ m, m = n / 64 % 64 := ⟨_, rfl⟩
  obtain ⟨m2, hm2'⟩ : ∃ m, m = n % 64 := ⟨_, rfl⟩
  rw [← hm1'] at hb1 hm1 ⊢
  rw [← hm2'] at hb2 hm2 ⊢
  have hcv : (convert 35 9 (.slice (some ⟨w.heap.size, 0, none⟩) 3 3)).run Tryz.prog (w.alloc (.cells #[.int .u8 (224 + (n : Int) / 4096), .int .u8 (128 + (m1 : Int)), .int .u8 (128 + (m2 : Int))] 5)) = .ok (.string (bs [UInt8.ofNat (224 + n / 4096), UInt8.ofNat (128 + m1), UInt8.ofNat (128 + m2)])) (w.alloc (.cells #[.int .u8 (224 + (n : Int) / 4096), .int .u8 (128 + (m1 : Int)), .int .u8 (128 + (m2 : Int))] 5)) := by
    refine run_convert_bytes_back (l := [UInt8.ofNat (224 + n / 4096), UInt8.ofNat (128 + m1), UInt8.ofNat (128 + m2)]) _ 35 9 5 ⟨w.heap.size, 0, none⟩ 3 Tryz.underlying35 Tryz.underlying5 Tryz.underlying9 (fun j hj => ?_)
    have e1 : (⟨w.heap.size, 0, none⟩ : Addr).add j = ⟨w.heap.size, j, none⟩ := by unfold Addr.add; split <;> simp_all
    rw [e1, World.cell?_alloc_mark]
    have hj : j < 3 := hj
    have : j = 0 ∨ j = 1 ∨ j = 2 := by omega
    rcases this with rfl | rfl | rfl
    · simp; omega
    · simp; omega
    · simp; omega
  clear hm1' hm2' hU e0 h
  obtain ⟨L, hL⟩ : ∃ L, L = [UInt8.ofNat (224 + n / 4096), UInt8.ofNat (128 + m1), UInt8.ofNat (128 + m2)] := ⟨_, rfl⟩
  rw [← hL] at hcv ⊢
  clear hL
  go_enter Tryz.func75, Tryz.ntmps75
  go_wp2_with fail
  go_ret
  exact ⟨rfl, (Fr.refl _ w).alloc _⟩

end Go.Proofs.YtbmfmnkfdfdjbaaGreatDoor.D
