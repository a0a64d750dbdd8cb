/-
  The reader of a document in memory; its small methods: must, peek, has, skip, run. No condition beyond the sizes that are named.
-/
import Derived.Test.YtbmfmnkfdfdjbaaGreatDoorL0
import Derived.Test.YtbmfmnkfdfdjbaaGreatDoorShelf
import Derived.Lib.TrimUEq
namespace Go.Proofs.YtbmfmnkfdfdjbaaGreatDoor.D
open Go.RowKit Go.Shelf
set_option linter.unusedVariables false
set_option linter.unusedSimpArgs false

/-- Block r is a reader of s at place i; its token begins at f; so many came. -/
def RdAt (w : World) (r : Nat) (s : List UInt8) (i f n : Nat) : Prop :=
  w.heap[r]? = some (.cells #[.string (bs s), .int .i64 i, .int .i64 f, .int .i64 n] 60)
theorem RdAt.stay {w w' : World} {r : Nat} {s : List UInt8} {i f n : Nat} (h : RdAt w r s i f n) (hf : Fr (fun _ => False) w w') : RdAt w' r s i f n := hf.at h (fun f => f)
theorem RdAt.keep {A : Nat → Prop} {w w' : World} {r : Nat} {s : List UInt8} {i f n : Nat} (h : RdAt w r s i f n) (hf : Fr A w w') (hn : ¬ A r) : RdAt w' r s i f n := hf.at h hn
theorem RdAt.move {w : World} {r : Nat} {s : List UInt8} {i f n : Nat} (h : RdAt w r s i f n) (j : Nat) : RdAt (w.setCell ⟨r, 1, none⟩ (.int .i64 j)) r s j f n := by
  unfold RdAt
  rw [set_at h 1]
  rfl
theorem RdAt.begin {w : World} {r : Nat} {s : List UInt8} {i f n : Nat} (h : RdAt w r s i f n) (j : Nat) : RdAt (w.setCell ⟨r, 2, none⟩ (.int .i64 j)) r s i j n := by
  unfold RdAt
  rw [set_at h 2]
  rfl
theorem RdAt.count {w : World} {r : Nat} {s : List UInt8} {i f n : Nat} (h : RdAt w r s i f n) (j : Nat) : RdAt (w.setCell ⟨r, 3, none⟩ (.int .i64 j)) r s i f j := by
  unfold RdAt
  rw [set_at h 3]
  rfl

/-- What a document is given up with. -/
def wrongAt (f : Nat) (e : Int) : List PanicEntry := [{ v := .iface 56 (.agg #[.int .i64 f, .int .i64 e]), recovered := false }]

theorem size_bs (l : List UInt8) : (bs l).size = l.length := by simp [bs, ByteArray.size]

theorem must_c (w : World) (r : Nat) (s : List UInt8) (i f n : Nat) (h : RdAt w r s i f n) (e : Int) :
    Calls Tryz.prog 51 #[.pointer (some ⟨r, 0, none⟩), .bool true, .int .i64 e] w fun x w' => x = .returned (.tuple #[]) ∧ w' = w := by
  go_enter Tryz.func51, Tryz.ntmps51
  go_wp2
  go_end0
  exact ⟨rfl, rfl⟩
theorem must_not (w : World) (r : Nat) (s : List UInt8) (i f n : Nat) (h : RdAt w r s i f n) (e : Int) :
    Calls Tryz.prog 51 #[.pointer (some ⟨r, 0, none⟩), .bool false, .int .i64 e] w fun x w' => x = .panicked (wrongAt f e) ∧ w' = w := by
  have c2 : w.cell? ⟨r, 2, none⟩ = some (.int .i64 f) := cell_at h 2
  clear h
  go_enter Tryz.func51, Tryz.ntmps51
  go_wp2
  exact ⟨rfl, rfl, rfl⟩

def pk (s : List UInt8) (k : Nat) : UInt8 := s.getD k 0
theorem idx_bs {P : Program} (t : TypeId) (ht : P.underlying t = some .string) (w : World) (l : List UInt8) (I : Int) (k : Nat) (hI : I = (k : Int)) (h : k < l.length) :
    (Instr.index t (.string (bs l)) (.int .i64 I)).run P w = .ok (.int .u8 ((pk l k).toNat : Int)) w := by
  subst hI
  have hz := size_bs l
  rw [run_index_string (h := ht), dif_pos ⟨by omega, by omega⟩]
  have e : ((k : Int)).toNat = k := by omega
  have := at_bs l k (by omega)
  simp only [e]
  rw [this]
  rfl
theorem peek_c (w : World) (r : Nat) (s : List UInt8) (i f n : Nat) (h : RdAt w r s i f n) (hs : s.length ≤ 1048576) (hi : i ≤ s.length) (k : Nat) (hk : k ≤ 8) :
    Calls Tryz.prog 65 #[.pointer (some ⟨r, 0, none⟩), .int .i64 k] w fun x w' => x = .returned (.int .u8 (pk s (i + k)).toNat) ∧ Fr (fun _ => False) w w' := by
  have c0 : w.cell? ⟨r, 0, none⟩ = some (.string (bs s)) := cell_at h 0
  have c1 : w.cell? ⟨r, 1, none⟩ = some (.int .i64 i) := cell_at h 1
  have hz := size_bs s
  clear h
  go_enter Tryz.func65, Tryz.ntmps65
  by_cases hd : i + k < s.length
  · have hx : ∀ w, (Instr.index 9 (.string (bs s)) (.int .i64 ((i : Int) + (k : Int)))).run Tryz.prog w = .ok (.int .u8 ((pk s (i + k)).toNat : Int)) w := fun w => idx_bs _ Tryz.underlying9 w s _ (i + k) (by omega) hd
    go_wp2_with fail
    go_quiet (fail)
    go_wp2_with fail
    go_quiet (fail)
    go_wp2_with fail
    go_ret
    exact ⟨rfl, fr_dn (fr_dn (Fr.refl _ _))⟩
  · have hp : pk s (i + k) = 0 := by unfold pk; rw [List.getD_eq_getElem?_getD, List.getElem?_eq_none (by omega)]; rfl
    rw [hp]
    go_wp2_with fail
    go_quiet (fail)
    go_wp2_with fail
    go_ret
    exact ⟨rfl, fr_dn (Fr.refl _ _)⟩

/-- Does this come? -/
def hasP (s : List UInt8) (i : Nat) (p : List UInt8) : Bool := p.isPrefixOf (s.drop i)
theorem has_c (w : World) (r : Nat) (s : List UInt8) (i f n : Nat) (h : RdAt w r s i f n) (hi : i ≤ s.length) (hs : s.length ≤ 1048576) (p : List UInt8) :
    Calls Tryz.prog 49 #[.pointer (some ⟨r, 0, none⟩), .string (bs p)] w fun x w' => x = .returned (.bool (hasP s i p)) ∧ Fr (fun _ => False) w w' := by
  have c0 : w.cell? ⟨r, 0, none⟩ = some (.string (bs s)) := cell_at h 0
  have c1 : w.cell? ⟨r, 1, none⟩ = some (.int .i64 i) := cell_at h 1
  have sl : ∀ W, (Instr.slice 9 (.string (bs s)) (some (.int .i64 i)) none none).run Tryz.prog W = .ok (.string (bs (s.drop i))) W := fun W => by
    have := slice_from 9 Tryz.underlying9 W s (i : Int) (by omega) (by omega)
    rwa [Int.toNat_natCast] at this
  have HP := hid (fun W => (Tryz.strings_HasPrefix (bs (s.drop i)) (bs p) W))
  obtain ⟨b, hb⟩ : ∃ b, b = hasP s i p := ⟨_, rfl⟩
  have HC := hid (fun W => show Calls Tryz.prog 62 #[.string (bs (s.drop i)), .string (bs p)] W fun e w' => e = .returned (.bool b) ∧ w' = W from hb ▸ HP.out W)
  rw [← hb]
  clear h hb HP
  go_enter Tryz.func49, Tryz.ntmps49
  go_wp2_with fail
  go_quiet (first | (go_at_call 62; with_reducible exact Calls.quiet_of_same (HC.out _)))
  go_wp2_with fail
  go_ret
  exact ⟨rfl, fr_dn (Fr.refl _ _)⟩

def skips (s : List UInt8) (i : Nat) (c : UInt8) : Bool := decide (i < s.length) && (pk s i == c)
theorem byte_eq (a b : UInt8) : (((a.toNat : Nat) : Int) == ((b.toNat : Nat) : Int)) = (a == b) := by
  by_cases h : a = b
  · subst h; simp
  · have h2 : a.toNat ≠ b.toNat := fun e => h (UInt8.toNat_inj.1 e)
    have e1 : (a == b) = false := by simpa using h
    rw [e1]
    simpa using (fun e : (a.toNat : Int) = b.toNat => h2 (by omega))
theorem skip_c (w : World) (r : Nat) (s : List UInt8) (i f n : Nat) (h : RdAt w r s i f n) (hs : s.length ≤ 1048576) (hi : i ≤ s.length) (c : UInt8) :
    Calls Tryz.prog 64 #[.pointer (some ⟨r, 0, none⟩), .int .u8 c.toNat] w fun x w' => x = .returned (.bool (skips s i c)) ∧ RdAt w' r s (if skips s i c then i + 1 else i) f n ∧ Fr (· = r) w w' := by
  have c0 : w.cell? ⟨r, 0, none⟩ = some (.string (bs s)) := cell_at h 0
  have c1 : w.cell? ⟨r, 1, none⟩ = some (.int .i64 i) := cell_at h 1
  have hz := size_bs s
  have HR := hid h
  by_cases hd : i < s.length
  · have hx : ∀ w, (Instr.index 9 (.string (bs s)) (.int .i64 (i : Int))).run Tryz.prog w = .ok (.int .u8 ((pk s i).toNat : Int)) w := fun w => idx_bs _ Tryz.underlying9 w s _ i (by omega) hd
    have he := byte_eq (pk s i) c
    obtain ⟨p, hp⟩ : ∃ p : Int, p = ((pk s i).toNat : Int) := ⟨_, rfl⟩
    obtain ⟨q, hq⟩ : ∃ q : Int, q = (c.toNat : Int) := ⟨_, rfl⟩
    rw [← hp] at hx
    rw [← hp, ← hq] at he
    cases hb : pk s i == c with
    | true =>
      have HE := hid (show skips s i c = true by simp [skips, hd, hb])
      rw [HE.out, ← hq]
      rw [hb] at he
      have f1 : w.frozen? ⟨r, 1, none⟩ = false := frozen_at h 1
      have hd' : (i : Int) < (s.length : Int) := by omega
      clear h hb hp hq hz
      go_enter Tryz.func64, Tryz.ntmps64
      go_wp2_with fail
      go_quiet (fail)
      go_wp2_with fail
      go_ret
      refine ⟨rfl, ?_, ?_⟩
      · have := RdAt.move (w := w.drewN nq) (RdAt.stay HR.out fr_drewN) (i + 1)
        simpa using this
      · exact (fr_no fr_drewN).trans (fr_set1 _ r 1 _) (fun _ _ e => e)
    | false =>
      have HE := hid (show skips s i c = false by simp [skips, hb])
      rw [HE.out, ← hq]
      rw [hb] at he
      clear h hb hp hq hz
      go_enter Tryz.func64, Tryz.ntmps64
      go_wp2_with fail
      go_quiet (fail)
      go_wp2_with fail
      go_ret
      exact ⟨rfl, RdAt.stay HR.out fr_drewN, fr_no fr_drewN⟩
  · have HE := hid (show skips s i c = false by simp [skips, hd])
    rw [HE.out]
    have hd' : decide ((i : Int) < (s.length : Int)) = false := by simp; omega
    clear h
    go_enter Tryz.func64, Tryz.ntmps64
    go_wp2_with fail
    go_quiet (fail)
    go_wp2_with fail
    go_ret
    exact ⟨rfl, RdAt.stay HR.out fr_drewN, fr_no fr_drewN⟩

end Go.Proofs.YtbmfmnkfdfdjbaaGreatDoor.D
