/-
  A pager's check; Read. No condition beyond the sizes that are named.
-/
import Derived.Test.YtjkhcfdflcndkaaG2
namespace Go.Proofs.Ytjkhcfdflcndkaa.D
open Go.RowKit Go.Maps Go.Shelf
set_option linter.unusedVariables false
set_option linter.unusedSimpArgs false

theorem cells_stay2 {w w' : World} (hf : Fr (fun _ => False) w w') {a : Addr} {v : Value} (h : w.cell? a = some v) : w'.cell? a = some v := by
  have hl := World.block_lt_of_cell? w a h
  rw [World.cell?_of_block (w := w) (hf.block _ hl (fun f => f))]
  exact h

set_option maxHeartbeats 4000000 in
set_option maxRecDepth 100000 in
theorem pcheck_c (w : World) (g bm : Nat) (s : St) (h : At w g bm s) (hs : s.Ok) (f c n : Int) (hf : -9223372036854775808 ≤ f) (hf2 : f ≤ 9223372036854775807) :
    Calls Try.prog 28 #[.pointer (some ⟨g, 0, none⟩), .int .i64 f, .int .i64 c, .int .i64 n] w fun e w' => e = .returned (.int .i64 (pchk s f c n)) ∧ w' = w := by
  obtain ⟨m, hm⟩ : ∃ m, m = s.n := ⟨_, rfl⟩
  have HCNT := hid (show Calls Try.prog 42 #[.pointer (some ⟨g, 0, none⟩)] w fun e w' => e = .returned (.int .i64 (m : Int)) ∧ w' = w from hm ▸ count_c w g bm s h hs)
  have HDD := hid (dead_c w g bm s h)
  have hn : m ≤ 4096 := hm ▸ hs.n2
  have HE := hid (show pchk s f c n = if f < 2 ∨ c < 1 ∨ 4096 < c ∨ (m : Int) < f ∨ (m : Int) - f < 8 * c ∨ n < 1 ∨ 1152921504606846976 < n then 190 else if s.dead then 2 else 0 by rw [hm]; rfl)
  clear h hs hm
  by_cases a0 : f < 2
  · rw [HE.out, if_pos (by omega)]
    go_enter Try.func28, Try.ntmps28
    go_wp2_with (go_at_call 42; refine HCNT.out.mono ?_; rintro e w' ⟨rfl, rfl⟩)
    go_ret
    exact ⟨rfl, rfl⟩
  by_cases a1 : c < 1
  · rw [HE.out, if_pos (by omega)]
    go_enter Try.func28, Try.ntmps28
    go_wp2_with (go_at_call 42; refine HCNT.out.mono ?_; rintro e w' ⟨rfl, rfl⟩)
    go_ret
    exact ⟨rfl, rfl⟩
  by_cases a2 : 4096 < c
  · rw [HE.out, if_pos (by omega)]
    go_enter Try.func28, Try.ntmps28
    go_wp2_with (go_at_call 42; refine HCNT.out.mono ?_; rintro e w' ⟨rfl, rfl⟩)
    go_ret
    exact ⟨rfl, rfl⟩
  by_cases a3 : (m : Int) < f
  · rw [HE.out, if_pos (by omega)]
    go_enter Try.func28, Try.ntmps28
    go_wp2_with (go_at_call 42; refine HCNT.out.mono ?_; rintro e w' ⟨rfl, rfl⟩)
    go_ret
    exact ⟨rfl, rfl⟩
  have x1 : IntKind.i64.wrap ((m : Int) - f) = (m : Int) - f := by rw [IntKind.wrap_i64]; omega
  have x2 : IntKind.i64.wrap (8 * c) = 8 * c := by rw [IntKind.wrap_i64]; omega
  by_cases a4 : (m : Int) - f < 8 * c
  · rw [HE.out, if_pos (by omega)]
    go_enter Try.func28, Try.ntmps28
    go_wp2_with (go_at_call 42; refine HCNT.out.mono ?_; rintro e w' ⟨rfl, rfl⟩)
    go_ret
    exact ⟨rfl, rfl⟩
  by_cases a5 : n < 1
  · rw [HE.out, if_pos (by omega)]
    go_enter Try.func28, Try.ntmps28
    go_wp2_with (go_at_call 42; refine HCNT.out.mono ?_; rintro e w' ⟨rfl, rfl⟩)
    go_ret
    exact ⟨rfl, rfl⟩
  by_cases a6 : 1152921504606846976 < n
  · rw [HE.out, if_pos (by omega)]
    go_enter Try.func28, Try.ntmps28
    go_wp2_with (go_at_call 42; refine HCNT.out.mono ?_; rintro e w' ⟨rfl, rfl⟩)
    go_ret
    exact ⟨rfl, rfl⟩
  cases hd : s.dead with
  | true =>
    have HZ := hid (show pchk s f c n = 2 by rw [HE.out, if_neg (by omega), hd]; rfl)
    rw [hd] at HDD
    rw [HZ.out]
    clear hd HE
    go_enter Try.func28, Try.ntmps28
    go_wp2_with (first
      | (go_at_call 42; refine HCNT.out.mono ?_; rintro e w' ⟨rfl, rfl⟩)
      | (go_at_call 17; refine HDD.out.mono ?_; rintro e w' ⟨rfl, rfl⟩))
    go_ret
    exact ⟨rfl, rfl⟩
  | false =>
    have HZ := hid (show pchk s f c n = 0 by rw [HE.out, if_neg (by omega), hd]; rfl)
    rw [hd] at HDD
    rw [HZ.out]
    clear hd HE
    go_enter Try.func28, Try.ntmps28
    go_wp2_with (first
      | (go_at_call 42; refine HCNT.out.mono ?_; rintro e w' ⟨rfl, rfl⟩)
      | (go_at_call 17; refine HDD.out.mono ?_; rintro e w' ⟨rfl, rfl⟩))
    go_ret
    exact ⟨rfl, rfl⟩

def PSt.read (P : PSt) (s : St) (k : Int) : List UInt8 × Int := if P.is k then s.read ((P.first : Int) + 8 * k) 8 else ([], 191)

set_option maxHeartbeats 4000000 in
set_option maxRecDepth 100000 in
theorem pread_c (w : World) (p g ml mt bm : Nat) (P : PSt) (s : St) (h : PAt w p g ml mt P) (hd : At w g bm s) (hs : s.Ok) (hP : P.Ok s.n) (k : Int) :
    Calls Try.prog 27 #[.pointer (some ⟨p, 0, none⟩), .int .i64 k] w fun e w' => e = .returned (.tuple #[.string (bs (P.read s k).1), .int .i64 (P.read s k).2]) ∧ Fr (fun _ => False) w w' := by
  have HIS := hid (is_c w p g ml mt P h k)
  have hpn : P.pages ≤ 4096 := hP.p2
  have hfn : P.first ≤ 4096 := by have := hP.area; have := hs.n2; omega
  have HA := hid hd
  have k0 : w.cell? ⟨p, 0, none⟩ = some (.pointer (some ⟨g, 0, none⟩)) := cell_at h.1 0
  have k1 : w.cell? ⟨p, 1, none⟩ = some (.int .i64 P.first) := cell_at h.1 1
  cases hi : P.is k with
  | false =>
    have HE := hid (show P.read s k = ([], 191) by unfold PSt.read; rw [hi]; rfl)
    rw [hi] at HIS
    rw [HE.out]
    clear h hd hs hP hi k0 k1
    go_enter Try.func27, Try.ntmps27
    go_wp2_with fail
    refine HIS.out.mono ?_
    rintro e w2 ⟨rfl, rfl⟩
    go_wp2_with fail
    go_ret2
    exact ⟨rfl, Fr.refl _ _⟩
  | true =>
    have HE := hid (show P.read s k = s.read ((P.first : Int) + 8 * k) 8 by unfold PSt.read; rw [if_pos hi])
    have hk : 0 ≤ k ∧ k < P.pages := by unfold PSt.is at hi; simpa using hi
    have x1 : IntKind.i64.wrap (8 * k) = 8 * k := by rw [IntKind.wrap_i64]; omega
    have x2 : IntKind.i64.wrap ((P.first : Int) + 8 * k) = (P.first : Int) + 8 * k := by rw [IntKind.wrap_i64]; omega
    rw [hi] at HIS
    have HRD := hid (fun W (hA : At W g bm s) => read_c W g bm s hA hs ((P.first : Int) + 8 * k) 8 (by omega) (by omega))
    unfold ReadC at HRD
    rw [← HE.out] at HRD
    have hA1 : At w.drew g bm s := hd.drew
    clear h hd hs hP hi
    go_enter Try.func27, Try.ntmps27
    go_wp2_with fail
    refine HIS.out.mono ?_
    rintro e w2 ⟨rfl, rfl⟩
    go_wp2_with fail
    go_region_held3 (fun w' => w'.cell? ⟨p, 0, none⟩ = some (.pointer (some ⟨g, 0, none⟩)) ∧ w'.cell? ⟨p, 1, none⟩ = some (.int .i64 P.first))
      (first | exact ⟨k0, k1⟩ | exact ⟨cells_stay2 (by assumption) k0, cells_stay2 (by assumption) k1⟩ | go_keep)
      (first
        | (go_at_call 39; refine (HRD.out _ hA1).mono ?_; rintro e w3 ⟨rfl, hf3⟩; have hf3' : Fr (fun _ => False) w2 w3 := ((Fr.refl _ w2).drew).trans hf3 (fun _ _ f => f)))
    all_goals
      go_wp2_with fail
      go_ret2
      exact ⟨rfl, hf3'⟩

end Go.Proofs.Ytjkhcfdflcndkaa.D
