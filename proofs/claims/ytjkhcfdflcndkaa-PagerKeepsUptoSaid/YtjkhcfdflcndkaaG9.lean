/-
  pager.set. No condition beyond the sizes that are named.
-/
import Derived.Test.YtjkhcfdflcndkaaG8
namespace Go.Proofs.Ytjkhcfdflcndkaa.D
open Go.RowKit Go.Maps Go.Shelf
set_option linter.unusedVariables false
set_option linter.unusedSimpArgs false

def SetPost (w : World) (c : Int → Bool) (l : List Int) (e : Ending) (w' : World) : Prop :=
  Fr (fun _ => False) w w' ∧ (setOk c l = true → ∃ B, e = .returned (.tuple #[.map (some B), .bool true]) ∧ SetAt w' B (fun x => l.contains x) ∧ w.heap.size ≤ B) ∧ (setOk c l = false → e = .returned (.tuple #[.map none, .bool false]) ∨ ∃ B, e = .returned (.tuple #[.map (some B), .bool false]) ∧ SetAt w' B (fun x => l.contains x))

theorem mem_snoc (l : List Int) (k : Nat) (h : k < l.length) (x : Int) : ((l.take (k + 1)).contains x) = (x == l.getD k 0 || (l.take k).contains x) := by
  rw [take_snoc l k h, Bool.eq_iff_iff]
  simp [or_comm]

theorem SetOf.len {w : World} {b z : Nat} {f : Int → Bool} (h : SetOf w b f z) (ty : TypeId) : (Builtin.len_ #[54] ty #[.map (some b)]).run Try.prog w = .ok (.int .i64 z) w := by
  obtain ⟨n, D, h1, _, _, h4⟩ := h
  rw [h1.len Try.underlying54, h4]

theorem setOk_iff (c : Int → Bool) (l : List Int) : setOk c l = true ↔ (∀ x ∈ l, c x = true) ∧ dist l l.length = l.length := by
  unfold setOk
  rw [Bool.and_eq_true, List.all_eq_true, decide_eq_true_eq, dist_nodup l l.length (Nat.le_refl _), List.take_length]

set_option maxHeartbeats 4000000 in
set_option maxRecDepth 100000 in
theorem set_c (w : World) (v : Value) (l : List Int) (F : FuncId) (pre post : Array Value) (c : Int → Bool) (N : Nat) (hv : IntsV w v l) (hl : ∀ x ∈ l, -9223372036854775808 ≤ x ∧ x ≤ 9223372036854775807) (hm : May w F pre post c) (hc : ∀ i, c i = true → 0 ≤ i ∧ i < (N : Int)) (hN : N ≤ 4096) :
    Calls Try.prog 34 #[v, .func (.func F) pre post] w (SetPost w c l) := by
  have HV := hid hv
  obtain ⟨a, cap, rfl, h0, h1⟩ := hv
  have hmm := @run_makeMap Try.prog
  have HM := hid hm
  have HC := hid hc
  have HL := hid hl
  have ENT := hm.1
  clear hm hc hl h1
  go_enter Try.func34, Try.ntmps34
  go_wp2_with fail
  have HS0 := hid (show SetOf (w.alloc (.map #[] 0)) w.heap.size (fun x => ([] : List Int).contains x) 0 from
    ⟨0, .map [], World.ownsMap_made _ _ _ _, fun i => by simp [Maps.has], fun k hk => by simp [Maps.has] at hk, by simp [Maps.size]⟩)
  obtain ⟨B, hB⟩ : ∃ B, B = w.heap.size := ⟨_, rfl⟩
  rw [← hB] at HS0 ⊢
  have HB := hid hB
  clear hB
  go_loopw [12] (fun v12 wr => ∃ i : Nat, v12 = .int .i64 i ∧ i ≤ l.length ∧ Hid (∀ x ∈ l.take i, c x = true) ∧ Hid (SetOf wr B (fun x => (l.take i).contains x) (dist l i)) ∧ Hid (Fr (fun _ => False) w wr)) (fun v _ => l.length - (intOf v).toNat)
  case atStart => exact ⟨0, rfl, by omega, hid (by simp), HS0, hid ((Fr.refl _ w).alloc _)⟩
  case round =>
    obtain ⟨i, rfl, hi, HA, HS, HF⟩ := hrel
    by_cases hend : i = l.length
    · subst hend
      have hlen := HS.out.len
      have HLT := hid (show (l.take l.length) = l from List.take_length)
      by_cases hd : dist l l.length = l.length
      · have HOK := hid ((setOk_iff c l).2 ⟨HLT.out ▸ HA.out, hd⟩)
        have q : (((dist l l.length : Nat) : Int) == (l.length : Int)) = true := by simp [hd]
        obtain ⟨z, hz⟩ : ∃ z, z = dist l l.length := ⟨_, rfl⟩
        rw [← hz] at hlen q
        clear hd hz
        go_wp2_with fail
        go_ret2
        refine ⟨HF.out, ?_⟩
        refine ⟨fun _ => ⟨B, rfl, ?_, by rw [HB.out]; exact Nat.le_refl _⟩, fun e => ?_⟩
        · have := HS.out.at
          rwa [HLT.out] at this
        · rw [HOK.out] at e
          cases e
      · have HOK := hid (show ¬ (setOk c l = true) from fun h => hd ((setOk_iff c l).1 h).2)
        have q : (((dist l l.length : Nat) : Int) == (l.length : Int)) = false := by rw [Bool.eq_false_iff]; intro e; simp at e; omega
        obtain ⟨z, hz⟩ : ∃ z, z = dist l l.length := ⟨_, rfl⟩
        rw [← hz] at hlen q
        clear hd hz
        go_wp2_with fail
        go_ret2
        refine ⟨HF.out, ?_⟩
        refine ⟨fun e => absurd e HOK.out, fun _ => Or.inr ⟨B, rfl, ?_⟩⟩
        have := HS.out.at
        rwa [HLT.out] at this
    · have hi' : i < l.length := by omega
      obtain ⟨x, hx⟩ : ∃ x, x = l.getD i 0 := ⟨_, rfl⟩
      obtain ⟨b0, o, rfl, h3⟩ : ∃ b0 o, a = some ⟨b0, o, none⟩ ∧ w.cell? ⟨b0, o + i, none⟩ = some (.int .i64 x) := by
        obtain ⟨a', cap', e1, _, h2⟩ := HV.out
        injection e1 with e1 _ _
        subst e1
        rcases h2 with h2 | ⟨b0, o, h2, h3⟩
        · rw [h2] at hi'; simp at hi'
        · exact ⟨b0, o, h2, hx ▸ h3 i hi'⟩
      have HLEN := hid hi'
      have hxm : x ∈ l := by rw [hx]; simp [List.getD_eq_getElem?_getD, List.getElem?_eq_getElem hi']
      have hxb := HL.out x hxm
      have ce := cells_stay2 HF.out h3
      have HCALL := hid (HM.out.2 x wr hxb.1 hxb.2 (fr_no HF.out))
      have HX := hid hx
      have HXM := hid hxm
      have HE := hid hend
      clear hx h3 hend hxm
      go_wp2_with fail
      refine HCALL.out.mono ?_
      rintro e w4 ⟨rfl, hf4⟩
      have HF4 := hid (HF.out.trans hf4 (fun _ _ f => f))
      have HS4 := hid (HS.out.keep hf4 (fun f => f))
      clear hf4 ce
      cases hck : c x with
      | false =>
        have HCK := hid hck
        clear hck
        go_wp2_with fail
        go_ret2
        refine ⟨HF4.out, ?_⟩
        refine ⟨fun h => ?_, fun _ => Or.inl rfl⟩
        rw [((setOk_iff c l).1 h).1 x HXM.out] at HCK
        exact absurd HCK.out (by decide)
      | true =>
        have HCK := hid hck
        clear hck
        obtain ⟨w5, hrun, hS5, hf5⟩ := HS4.out.put (N := N) (fun j hj => HC.out j (HA.out j (List.contains_iff_mem.1 hj))) (by omega) x hxb.1 hxb.2
        have HS5 := hid hS5
        have HF5 := hid hf5
        clear hS5 hf5
        go_wp2_with fail
        refine ⟨⟨i + 1, by go_num, by omega, hid ?_, hid ?_, hid ?_⟩, by simp [intOf]; omega⟩
        · intro y hy
          rw [take_snoc l i HLEN.out, List.mem_append, List.mem_singleton] at hy
          rcases hy with hy | hy
          · exact HA.out y hy
          · rw [hy, ← HX.out]
            exact HCK.out
        · have e : (fun y => (l.take (i + 1)).contains y) = (fun y => y == x || (l.take i).contains y) := by
            funext y
            rw [mem_snoc l i HLEN.out, HX.out]
          rw [e, dist, ← HX.out]
          exact HS5.out
        · exact HF4.out.trans HF5.out (fun j hj e => by have := HB.out; omega)

end Go.Proofs.Ytjkhcfdflcndkaa.D
