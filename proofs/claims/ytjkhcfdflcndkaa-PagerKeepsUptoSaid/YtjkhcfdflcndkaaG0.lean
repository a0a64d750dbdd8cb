/-
  A pager reads a number: small. No condition beyond the sizes that are named.
-/
import Derived.Test.YtjkhcfdflcndkaaW0
import Derived.Test.YtjkhcfdflcndkaaDX
import Derived.Lib.AppendZeros
import Derived.Lib.AppendStr
import Derived.Laws.Bits64
import Derived.Laws.AppendOwn
namespace Go.Proofs.Ytjkhcfdflcndkaa.D
open Go.RowKit Go.Maps Go.Shelf
set_option linter.unusedVariables false
set_option linter.unusedSimpArgs false

theorem val_take (l : List UInt8) (k : Nat) (hk : k < l.length) : val (l.take (k + 1)) = val (l.take k) * 256 + (l.getD k 0).toNat := by
  rw [List.take_add_one, List.getElem?_eq_getElem hk]
  simp only [Option.toList, val_snoc]
  simp [List.getD_eq_getElem?_getD, hk]

theorem or_byte (x b : Nat) (hb : b < 256) : (x * 256) ||| b = x * 256 + b := by
  have h := Nat.shiftLeft_add_eq_or_of_lt (i := 8) (b := b) (by omega) x
  rw [Nat.shiftLeft_eq] at h
  exact h.symm

theorem bits_or_u64 (a b : Nat) (ha : a < 18446744073709551616) (hb : b < 18446744073709551616) :
    bits .or .u64 (a : Int) (b : Int) = ((a ||| b : Nat) : Int) := by
  have hx : a ||| b < 2 ^ 64 := Nat.or_lt_two_pow (by omega) (by omega)
  have h1 : (BitVec.ofInt 64 (a : Int)).toNat = a := by
    rw [BitVec.ofInt_natCast, BitVec.toNat_ofNat]; exact Nat.mod_eq_of_lt (by omega)
  have h2 : (BitVec.ofInt 64 (b : Int)).toNat = b := by
    rw [BitVec.ofInt_natCast, BitVec.toNat_ofNat]; exact Nat.mod_eq_of_lt (by omega)
  show IntKind.u64.wrap ((BitVec.ofInt 64 (a : Int) ||| BitVec.ofInt 64 (b : Int)).toNat : Int) = _
  rw [BitVec.toNat_or, h1, h2, IntKind.wrap_u64]
  omega

theorem or_step (x b : Nat) (hx : x < 256 ^ 7) (hb : b < 256) : bits BinOp.or IntKind.u64 ((x : Int) * 256) (IntKind.u64.wrap (b : Int)) = ((x * 256 + b : Nat) : Int) := by
  have e1 : ((x : Int) * 256) = ((x * 256 : Nat) : Int) := by omega
  have e2 : IntKind.u64.wrap (b : Int) = (b : Int) := by rw [IntKind.wrap_u64]; omega
  rw [e1, e2, bits_or_u64 _ _ (by omega) (by omega), or_byte x b hb]

set_option maxHeartbeats 4000000 in
set_option maxRecDepth 100000 in
theorem small_c (w : World) (l : List UInt8) (hl : l.length ≤ 8) :
    Calls Try.prog 55 #[.string (bs l)] w fun e w' => e = .returned (.int .u64 (val l)) ∧ w' = w := by
  go_enter Try.func55, Try.ntmps55
  go_wp2_with fail
  go_loop [6, 2] (fun v v2 => ∃ k : Nat, v = .int .i64 k ∧ k ≤ l.length ∧ v2 = .int .u64 (val (l.take k))) (fun v _ => l.length - (intOf v).toNat)
  case atStart => exact ⟨0, rfl, by omega, rfl⟩
  case round =>
    obtain ⟨k, rfl, hk, rfl⟩ := hrel
    by_cases hend : k = l.length
    · subst hend
      go_wp2_with fail
      go_ret
      exact ⟨rfl, rfl⟩
    · have hk' : k < l.length := by omega
      have hz : (bs l).size = l.length := by simp [bs, ByteArray.size]
      have hkz : k < (bs l).size := by omega
      have hat := at_bs l k hkz
      have hv : val (l.take k) < 256 ^ 7 := by
        have h1 := val_lt (l.take k)
        have h2 : (l.take k).length ≤ 7 := by rw [List.length_take]; omega
        exact Nat.lt_of_lt_of_le h1 (Nat.pow_le_pow_right (by omega) h2)
      have HV := hid hv
      go_wp2_with fail
      refine ⟨⟨k + 1, by go_num, by omega, ?_⟩, by simp [intOf]; omega⟩
      rw [show l[k] = l.getD k 0 by simp [List.getD_eq_getElem?_getD, hk'], or_step _ _ HV.out (UInt8.toNat_lt _), val_take l k hk']

/-! ### a buffer of known room: noughts behind what it holds -/

end Go.Proofs.Ytjkhcfdflcndkaa.D
