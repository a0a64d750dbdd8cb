/-
  Four digits of base sixteen are read as a number. No condition.
-/
import Derived.Test.YtbmfmnkfdfdjbaaGreatDoorL3
import Derived.Laws.IdiomStrings
namespace Go.Proofs.YtbmfmnkfdfdjbaaGreatDoor.D
open Go.RowKit Go.Shelf
set_option linter.unusedVariables false
set_option linter.unusedSimpArgs false

def hexB : List UInt8 := [48, 49, 50, 51, 52, 53, 54, 55, 56, 57, 97, 98, 99, 100, 101, 102, 65, 66, 67, 68, 69, 70]
/-- A digit's number. -/
def hv (c : UInt8) : Nat := if c.toNat ≤ 57 then c.toNat - 48 else (c ||| 32).toNat - 87
theorem hex_cases : ∀ c : UInt8, hexB.contains c = true → (48 ≤ c.toNat ∧ c.toNat ≤ 57) ∨ (57 < c.toNat ∧ 97 ≤ (c ||| 32).toNat ∧ (c ||| 32).toNat ≤ 102 ∧ c.toNat < 122 ∧ c.toNat ≠ 95) := by
  intro c h
  have : c ∈ hexB := by simpa using h
  simp only [hexB, List.mem_cons, List.not_mem_nil, or_false] at this
  rcases this with rfl | rfl | rfl | rfl | rfl | rfl | rfl | rfl | rfl | rfl | rfl | rfl | rfl | rfl | rfl | rfl | rfl | rfl | rfl | rfl | rfl | rfl <;> decide
theorem hv_lt {c : UInt8} (h : hexB.contains c = true) : hv c < 16 := by
  have := hex_cases c h
  unfold hv
  split <;> omega
def hexV (l : List UInt8) : Nat := l.foldl (fun n c => n * 16 + hv c) 0
theorem hexV_take {l : List UInt8} {k : Nat} (hk : k < l.length) : hexV (l.take (k + 1)) = hexV (l.take k) * 16 + hv (pk l k) := by
  rw [List.take_add_one, List.getElem?_eq_getElem hk]
  unfold hexV
  rw [Option.toList, List.foldl_append]
  simp [pk, List.getD_eq_getElem?_getD, hk]
theorem hexV_lt : ∀ (k : Nat) (l : List UInt8), k ≤ l.length → (∀ j, j < l.length → hexB.contains (pk l j) = true) → hexV (l.take k) < 16 ^ k
  | 0, l, _, _ => by simp [hexV]
  | k + 1, l, hk, h => by
    have h1 := hexV_lt k l (by omega) h
    have h2 := hv_lt (h k (by omega))
    rw [hexV_take (by omega), Nat.pow_succ]
    omega

set_option maxRecDepth 100000 in
theorem low_bits : ∀ x : Fin 256, bits .or .u8 ((x.val : Nat) : Int) 32 = (((UInt8.ofNat x.val) ||| 32).toNat : Int) := by decide
theorem lower_c (w : World) (c : UInt8) :
    Calls Tryz.prog 79 #[.int .u8 c.toNat] w fun e w' => e = .returned (.int .u8 (c ||| 32).toNat) ∧ w' = w := by
  have hb : bits .or .u8 (c.toNat : Int) 32 = ((c ||| 32).toNat : Int) := by
    have := low_bits ⟨c.toNat, UInt8.toNat_lt c⟩
    simpa using this
  go_enter Tryz.func79, Tryz.ntmps79
  go_wp2
  go_ret
  exact ⟨by first | rfl | (rw [← hb]; rfl), rfl⟩

set_option maxHeartbeats 1000000 in
set_option maxRecDepth 100000 in
theorem iparse_c (w : World) (l : List UInt8) (h1 : 1 ≤ l.length) (h4 : l.length ≤ 4) (hh : ∀ j, j < l.length → hexB.contains (pk l j) = true) :
    Calls Tryz.prog 77 #[.string (bs l), .int .i64 16, .int .i64 32] w fun e w' => e = .returned (.tuple #[.int .u64 (hexV l), .nilIface]) ∧ Fr (fun _ => False) w w' := by
  have hz := size_bs l
  have hne : (bs l).toList = l := by simp
  have hie : l.isEmpty = false := by cases l with | nil => simp at h1 | cons _ _ => rfl
  have HH := hid hh
  have hcv := run_bytes_of_string (P := Tryz.prog) w 9 35 5 (bs l) Tryz.underlying9 Tryz.underlying35 Tryz.underlying5
  rw [hz] at hcv
  obtain ⟨cap, hcap⟩ : ∃ cap, cap = grownCap w l.length 0 5 := ⟨_, rfl⟩
  rw [← hcap] at hcv
  obtain ⟨x, hx⟩ : ∃ x, x = w.heap.size := ⟨_, rfl⟩
  obtain ⟨W1, hW1⟩ : ∃ W1, W1 = w.drew.alloc (.cells (bytesRow (bs l) cap) 5 ((bytesRow (bs l) cap).size, (bytesRow (bs l) cap).size + 1)) := ⟨_, rfl⟩
  rw [← hW1, ← hx] at hcv
  have HF := hid (show Fr (fun _ => False) w W1 from hW1 ▸ (Fr.refl _ w).drew.alloc _)
  have HC := hid (show ∀ j, j < l.length → W1.cell? ⟨x, j, none⟩ = some (.int .u8 ((pk l j).toNat : Int)) from by
    intro j hj
    have hh : W1.heap[x]? = some (.cells (bytesRow (bs l) cap) 5 ((bytesRow (bs l) cap).size, (bytesRow (bs l) cap).size + 1)) := by rw [hW1, hx]; exact (MapKept.heap_alloc w.drew _).1
    rw [Lib.cell_of_heap hh]
    unfold bytesRow
    rw [Array.getElem?_append_left (by simp [bs]; omega)]
    simp [bs, pk, List.getD_eq_getElem?_getD, hj])
  clear hh hcap hW1
  rw [hx] at hcv
  go_enter Tryz.func77, Tryz.ntmps77
  go_wp2_with fail
  rw [← hx]
  clear hcv hx
  go_loop [12, 13, 101] (fun v12 v13 v101 => ∃ k : Nat, v12 = .bool false ∧ v101 = .int .i64 k ∧ k ≤ l.length ∧ v13 = .int .u64 (hexV (l.take k))) (fun _ _ v => l.length - (intOf v).toNat)
  case atStart => exact ⟨0, rfl, rfl, by omega, rfl⟩
  case round =>
    obtain ⟨k, rfl, rfl, hk, rfl⟩ := hrel
    by_cases hend : k = l.length
    · have HE := hid (show hexV (l.take k) = hexV l by rw [hend, List.take_length])
      obtain ⟨V, hV⟩ : ∃ V : Int, V = (hexV (l.take k) : Int) := ⟨_, rfl⟩
      rw [← hV]
      have HV := hid (show V = (hexV l : Int) by rw [hV, HE.out])
      have hk2 : ¬ k < l.length := by omega
      clear hV hend
      go_wp2_with fail
      trace_state
      go_ret2
      exact ⟨by rw [HV.out]; rfl, HF.out⟩
    · have hk' : k < l.length := by omega
      have hd : (k : Int) < (l.length : Int) := by omega
      obtain ⟨N, hN⟩ : ∃ N, N = hexV (l.take k) := ⟨_, rfl⟩
      have hNl : N < 65536 := by
        have h := hexV_lt k l (by omega) HH.out
        have h2 : 16 ^ k ≤ 16 ^ 4 := Nat.pow_le_pow_right (by omega) (by omega)
        rw [hN]
        omega
      have HS := hid (hexV_take hk')
      rw [← hN] at HS ⊢
      have hex := hex_cases _ (HH.out k hk')
      have hld := HC.out k hk'
      have hvd : hv (pk l k) = if (pk l k).toNat ≤ 57 then (pk l k).toNat - 48 else (pk l k ||| 32).toNat - 87 := rfl
      have hlow := hid (fun W => lower_c W (pk l k))
      have hc256 := UInt8.toNat_lt (pk l k)
      obtain ⟨c, hc⟩ : ∃ c, c = pk l k := ⟨_, rfl⟩
      rw [← hc] at hex hld hvd hlow hc256 HS
      obtain ⟨v, hvv⟩ : ∃ v : Int, v = (c.toNat : Int) := ⟨_, rfl⟩
      obtain ⟨u, hu⟩ : ∃ u : Int, u = ((c ||| 32).toNat : Int) := ⟨_, rfl⟩
      obtain ⟨D, hD⟩ : ∃ D : Nat, D = hv c := ⟨_, rfl⟩
      rw [← hD] at HS hvd
      rw [← hvv] at hld
      have hlow2 := hid (fun W => show Calls Tryz.prog 79 #[.int .u8 v] W fun e w' => e = .returned (.int .u8 u) ∧ w' = W from hvv ▸ hu ▸ hlow.out W)
      have g7 : decide ((1152921504606846976 : Int) ≤ (N : Int)) = false := decide_eq_false (by omega)
      have g8 : decide ((4294967295 : Int) < (N : Int) * 16 + (D : Int)) = false := decide_eq_false (by have := hv_lt (HH.out k hk'); rw [← hc, ← hD] at this; omega)
      have g9 : decide ((N : Int) * 16 + (D : Int) < (N : Int) * 16) = false := decide_eq_false (by omega)
      have hD16 : (D : Int) < 16 := by have := hv_lt (HH.out k hk'); rw [← hc, ← hD] at this; omega
      clear hN hc hD hlow hc256
      rcases hex with ⟨h48, h57⟩ | ⟨h57, h97, h102, h122, h95⟩
      · rw [if_pos h57] at hvd
        have g1 : (48 : Int) ≤ v := by omega
        have g2 : v ≤ 57 := by omega
        have g3 : (v == 95) = false := by simp; omega
        have g10 : v - 48 = (D : Int) := by omega
        clear hvd h48 h57 hvv hu
        go_wp2_with fail
        refine ⟨⟨k + 1, rfl, by go_num, by omega, ?_⟩, by simp [intOf]; omega⟩
        rw [HS.out]
        congr 1
      · rw [if_neg (by omega)] at hvd
        have g1 : (48 : Int) ≤ v := by omega
        have g2 : decide (v ≤ 57) = false := by simp; omega
        have g4 : (97 : Int) ≤ u := by omega
        have g5 : u ≤ 122 := by omega
        have g6 : u ≤ 102 := by omega
        have g3 : (v == 95) = false := by simp; omega
        have g10 : u - 97 + 10 = (D : Int) := by omega
        clear hvd h57 h97 h102 h122 h95 hvv hu
        go_wp2_with fail
        refine (hlow2.out _).mono ?_
        rintro e w2 ⟨rfl, rfl⟩
        go_wp2_with fail
        refine (hlow2.out _).mono ?_
        rintro e w3 ⟨rfl, rfl⟩
        go_wp2_with fail
        refine (hlow2.out _).mono ?_
        rintro e w4 ⟨rfl, rfl⟩
        go_wp2_with fail
        refine ⟨⟨k + 1, rfl, by go_num, by omega, ?_⟩, by simp [intOf]; omega⟩
        rw [HS.out]
        congr 1

end Go.Proofs.YtbmfmnkfdfdjbaaGreatDoor.D
