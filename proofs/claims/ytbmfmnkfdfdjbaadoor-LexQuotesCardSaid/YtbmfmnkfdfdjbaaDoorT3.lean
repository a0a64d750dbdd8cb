/-
  Unit: a number's bytes, as the document says. No condition beyond the sizes that are named.
-/
import Derived.Test.YtbmfmnkfdfdjbaaDoorL8
import Derived.OwnWalk
namespace Go.Proofs.YtbmfmnkfdfdjbaaDoor.D
open Go.RowKit Go.Shelf
set_option linter.unusedVariables false
set_option linter.unusedSimpArgs false

set_option maxRecDepth 100000 in
theorem ris_c (w : World) (n : Nat) (hn : n < 65536) :
    Calls Tryd.prog 14 #[.int .i64 n] w fun e w' => e = .returned (.bool (!isSur n)) ∧ w' = w := by
  have h0 : (0 : Int) ≤ (n : Int) := by omega
  have h1 : (n : Int) ≤ 1114111 := by omega
  by_cases h2 : n < 55296
  · have h2' : (n : Int) < 55296 := by omega
    have HB := hid (show isSur n = false by unfold isSur; rw [decide_eq_false (by omega)]; rfl)
    go_enter Tryd.func14, Tryd.ntmps14
    go_wp2_with fail
    go_ret
    exact ⟨by rw [HB.out]; rfl, rfl⟩
  · have h2' : decide ((n : Int) < 55296) = false := by simp; omega
    by_cases h3 : 57343 < n
    · have h3' : (57343 : Int) < (n : Int) := by omega
      have HB := hid (show isSur n = false by unfold isSur; rw [decide_eq_false (p := n ≤ 57343) (by omega)]; simp)
      go_enter Tryd.func14, Tryd.ntmps14
      go_wp2_with fail
      go_ret
      exact ⟨by rw [HB.out]; rfl, rfl⟩
    · have h3' : decide ((57343 : Int) < (n : Int)) = false := by simp; omega
      have HB := hid (show isSur n = true by unfold isSur; rw [decide_eq_true (by omega), decide_eq_true (by omega)]; rfl)
      go_enter Tryd.func14, Tryd.ntmps14
      go_wp2_with fail
      go_ret
      exact ⟨by rw [HB.out]; rfl, rfl⟩

theorem byte_of (n : Nat) (h : n < 256) : ((UInt8.ofNat n).toNat : Int) = (n : Int) := by simp; omega
theorem back1 (w : World) (a : Nat) (ha : a < 256) :
    (convert 23 9 (.slice (some ⟨w.heap.size, 0, none⟩) 1 1)).run Tryd.prog (w.alloc (.cells #[.int .u8 (a : Int)] 5)) = .ok (.string (bs [UInt8.ofNat a])) (w.alloc (.cells #[.int .u8 (a : Int)] 5)) := by
  refine run_convert_bytes_back (l := [UInt8.ofNat a]) _ 23 9 5 ⟨w.heap.size, 0, none⟩ 1 Tryd.underlying23 Tryd.underlying5 Tryd.underlying9 (fun j hj => ?_)
  have e1 : (⟨w.heap.size, 0, none⟩ : Addr).add j = ⟨w.heap.size, j, none⟩ := by unfold Addr.add; split <;> simp_all
  rw [e1, World.cell?_alloc_mark]
  have hj : j < 1 := hj
  obtain rfl : j = 0 := by omega
  simp; omega
theorem back2 (w : World) (a b : Nat) (ha : a < 256) (hb : b < 256) :
    (convert 23 9 (.slice (some ⟨w.heap.size, 0, none⟩) 2 2)).run Tryd.prog (w.alloc (.cells #[.int .u8 (a : Int), .int .u8 (b : Int)] 5)) = .ok (.string (bs [UInt8.ofNat a, UInt8.ofNat b])) (w.alloc (.cells #[.int .u8 (a : Int), .int .u8 (b : Int)] 5)) := by
  refine run_convert_bytes_back (l := [UInt8.ofNat a, UInt8.ofNat b]) _ 23 9 5 ⟨w.heap.size, 0, none⟩ 2 Tryd.underlying23 Tryd.underlying5 Tryd.underlying9 (fun j hj => ?_)
  have e1 : (⟨w.heap.size, 0, none⟩ : Addr).add j = ⟨w.heap.size, j, none⟩ := by unfold Addr.add; split <;> simp_all
  rw [e1, World.cell?_alloc_mark]
  have hj : j < 2 := hj
  have : j = 0 ∨ j = 1 := by omega
  rcases this with rfl | rfl
  · simp; omega
  · simp; omega
theorem back3 (w : World) (a b c : Nat) (ha : a < 256) (hb : b < 256) (hc : c < 256) :
    (convert 23 9 (.slice (some ⟨w.heap.size, 0, none⟩) 3 3)).run Tryd.prog (w.alloc (.cells #[.int .u8 (a : Int), .int .u8 (b : Int), .int .u8 (c : Int)] 5)) = .ok (.string (bs [UInt8.ofNat a, UInt8.ofNat b, UInt8.ofNat c])) (w.alloc (.cells #[.int .u8 (a : Int), .int .u8 (b : Int), .int .u8 (c : Int)] 5)) := by
  refine run_convert_bytes_back (l := [UInt8.ofNat a, UInt8.ofNat b, UInt8.ofNat c]) _ 23 9 5 ⟨w.heap.size, 0, none⟩ 3 Tryd.underlying23 Tryd.underlying5 Tryd.underlying9 (fun j hj => ?_)
  have e1 : (⟨w.heap.size, 0, none⟩ : Addr).add j = ⟨w.heap.size, j, none⟩ := by unfold Addr.add; split <;> simp_all
  rw [e1, World.cell?_alloc_mark]
  have hj : j < 3 := hj
  have : j = 0 ∨ j = 1 ∨ j = 2 := by omega
  rcases this with rfl | rfl | rfl
  · simp; omega
  · simp; omega
  · simp; omega

set_option maxRecDepth 100000 in
theorem rbytes_c (w : World) (n : Nat) (hn : n < 65536) :
    Calls Tryd.prog 15 #[.int .i64 n] w fun e w' => e = .returned (.string (bs (unitL n))) ∧ Fr (fun _ => False) w w' := by
  by_cases h1 : n < 128
  · have hU : unitL n = [UInt8.ofNat n] := by unfold unitL; rw [if_pos h1]
    have hcv := back1 w n (by omega)
    rw [hU]
    obtain ⟨L, hL⟩ : ∃ L, L = [UInt8.ofNat n] := ⟨_, rfl⟩
    rw [← hL] at hcv ⊢
    have h1' : (n : Int) < 128 := by omega
    clear hU hL
    go_enter Tryd.func15, Tryd.ntmps15
    go_wp2_with fail
    go_ret
    exact ⟨rfl, (Fr.refl _ w).alloc _⟩
  have h1' : decide ((n : Int) < 128) = false := by simp; omega
  by_cases h2 : n < 2048
  · have hU : unitL n = [UInt8.ofNat (192 + n / 64), UInt8.ofNat (128 + n % 64)] := by unfold unitL; rw [if_neg h1, if_pos h2]
    have hcv := back2 w (192 + n / 64) (128 + n % 64) (by omega) (by omega)
    rw [hU]
    obtain ⟨L, hL⟩ : ∃ L, L = [UInt8.ofNat (192 + n / 64), UInt8.ofNat (128 + n % 64)] := ⟨_, rfl⟩
    rw [← hL] at hcv ⊢
    rw [show ((192 + n / 64 : Nat) : Int) = 192 + (n : Int) / 64 by omega, show ((128 + n % 64 : Nat) : Int) = 128 + (n : Int) % 64 by omega] at hcv
    have h2' : (n : Int) < 2048 := by omega
    clear hU hL
    go_enter Tryd.func15, Tryd.ntmps15
    go_wp2_with fail
    go_ret
    exact ⟨rfl, (Fr.refl _ w).alloc _⟩
  have h2' : decide ((n : Int) < 2048) = false := by simp; omega
  have h3' : (n : Int) < 65536 := by omega
  have hU : unitL n = [UInt8.ofNat (224 + n / 4096), UInt8.ofNat (128 + n / 64 % 64), UInt8.ofNat (128 + n % 64)] := by unfold unitL; rw [if_neg h1, if_neg h2]
  have hcv := back3 w (224 + n / 4096) (128 + n / 64 % 64) (128 + n % 64) (by omega) (by omega) (by omega)
  rw [hU]
  obtain ⟨L, hL⟩ : ∃ L, L = [UInt8.ofNat (224 + n / 4096), UInt8.ofNat (128 + n / 64 % 64), UInt8.ofNat (128 + n % 64)] := ⟨_, rfl⟩
  rw [← hL] at hcv ⊢
  rw [show ((224 + n / 4096 : Nat) : Int) = 224 + (n : Int) / 4096 by omega, show ((128 + n / 64 % 64 : Nat) : Int) = 128 + (n : Int) / 64 % 64 by omega, show ((128 + n % 64 : Nat) : Int) = 128 + (n : Int) % 64 by omega] at hcv
  clear hU hL
  go_enter Tryd.func15, Tryd.ntmps15
  go_wp2_with fail
  go_ret
  exact ⟨rfl, (Fr.refl _ w).alloc _⟩

set_option maxRecDepth 100000 in
theorem unit_c (w : World) (n : Nat) (hn : n < 65536) :
    Calls Tryd.prog 8 #[.int .i64 n] w fun e w' => e = .returned (.string (bs (unitL n))) ∧ Fr (fun _ => False) w w' := by
  have HI := hid (ris_c w n hn)
  have HBY := hid (rbytes_c w n hn)
  cases hs : isSur n with
  | false =>
    rw [hs] at HI
    have HI := hid (show Calls Tryd.prog 14 #[.int .i64 n] w fun e w' => e = .returned (.bool true) ∧ w' = w from HI.out)
    clear hs
    go_enter Tryd.func8, Tryd.ntmps8
    go_wp2_with fail
    refine HI.out.mono ?_
    rintro e w2 ⟨rfl, hw2⟩
    rw [hw2]
    clear hw2
    go_wp2_with fail
    refine HBY.out.mono ?_
    rintro e w3 ⟨rfl, hf⟩
    have HF := hid hf
    clear hf
    go_wp2_with fail
    go_ret
    exact ⟨rfl, HF.out⟩
  | true =>
    rw [hs] at HI
    have HI := hid (show Calls Tryd.prog 14 #[.int .i64 n] w fun e w' => e = .returned (.bool false) ∧ w' = w from HI.out)
    have hsr : 55296 ≤ n ∧ n ≤ 57343 := by unfold isSur at hs; simpa using hs
    have hU : unitL n = [UInt8.ofNat (224 + n / 4096), UInt8.ofNat (128 + n / 64 % 64), UInt8.ofNat (128 + n % 64)] := by unfold unitL; rw [if_neg (by omega), if_neg (by omega)]
    have hcv := back3 w (224 + n / 4096) (128 + n / 64 % 64) (128 + n % 64) (by omega) (by omega) (by omega)
    rw [hU]
    obtain ⟨L, hL⟩ : ∃ L, L = [UInt8.ofNat (224 + n / 4096), UInt8.ofNat (128 + n / 64 % 64), UInt8.ofNat (128 + n % 64)] := ⟨_, rfl⟩
    rw [← hL] at hcv ⊢
    rw [show ((224 + n / 4096 : Nat) : Int) = 224 + (n : Int) / 4096 by omega, show ((128 + n / 64 % 64 : Nat) : Int) = 128 + (n : Int) / 64 % 64 by omega, show ((128 + n % 64 : Nat) : Int) = 128 + (n : Int) % 64 by omega] at hcv
    clear hU hL hs HBY hsr
    go_enter Tryd.func8, Tryd.ntmps8
    go_wp2_with fail
    refine HI.out.mono ?_
    rintro e w2 ⟨rfl, hw2⟩
    rw [hw2]
    clear hw2
    go_wp2_with fail
    go_ret
    exact ⟨rfl, (Fr.refl _ w).alloc _⟩

end Go.Proofs.YtbmfmnkfdfdjbaaDoor.D
