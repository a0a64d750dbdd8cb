/-
  (*Disk).Unsafe: the numbers of the unsafe sectors, from the least on. No condition beyond the disk's own.
-/
import Derived.Test.YtjkhcfdflcndkaaD3
import Derived.Test.YtjkhcfdflcndkaaIter
namespace Go.Proofs.Ytjkhcfdflcndkaa.D
open Go.RowKit Go.Maps Go.Sort Go.Shelf
set_option linter.unusedVariables false
set_option linter.unusedSimpArgs false

theorem sortsA (m : Nat) : AnyZI.SortsIn Try.prog Try.sortedA_ren Fence.wide m :=
  ⟨fun blk off cap ss W hH hblk hsz => callsIn_wide.2 (AnyM.slices_Sort_int Try.sortA blk off cap ss W hH hblk hsz),
   fun p cap W => callsIn_wide.2 (AnyM.slices_Sort_int_none Try.sortA p cap W)⟩

theorem keys_perm {w : World} {g bm : Nat} {s : St} {m : Nat} {D : DataW Unit} (hs : s.Ok) (hown : w.ownsMap Try.prog 3 (plainElem (H := Unit) Try.prog 9) bm m D) (hsays : Says D s.un)
    (hk : ∀ k, Maps.has D k = true → ∃ i : Nat, k = .int .i64 i) : (s.unl.map (fun (i : Nat) => (i : Int))).Perm (intKeys D) := by
  have K : Keyed Try.prog 3 := int_keyed Try.underlying3
  obtain ⟨es0, e1, hp⟩ := hown.tidy K
  have hkey : ∀ p ∈ es0, WideAt.IsKeyLit p.1 := by
    obtain ⟨es, clock, hb, F, _, hD⟩ := hown
    rw [e1] at hD
    injection hD with hD
    intro p hpm
    rw [hD] at hpm
    have hpm := (WideShapes.sorted_perm _).mem_iff.1 hpm
    obtain ⟨key, hkk⟩ := fit_keys F p hpm
    exact K.key hkk
  subst e1
  refine perm_intKeys hp (fun p hpm => ?_) ?_ (fun x => ?_)
  · obtain ⟨i, hi⟩ := hk p.1 (by rw [has_eq, List.any_eq_true]; exact ⟨p, hpm, WideAt.sameKey_self (hkey p hpm)⟩)
    exact ⟨_, hi⟩
  · refine List.pairwise_map.2 ((List.Pairwise.filter _ List.pairwise_lt_range).imp (fun {a b} h => ?_))
    omega
  · constructor
    · intro hx
      obtain ⟨i, hi, rfl⟩ := List.mem_map.1 hx
      rw [hsays.has i]
      exact (List.mem_filter.1 hi).2
    · intro hx
      obtain ⟨i, hi⟩ := hk _ hx
      injection hi with _ hi
      subst hi
      rw [hsays.has i] at hx
      obtain ⟨l, hl⟩ := Option.isSome_iff_exists.1 hx
      exact List.mem_map.2 ⟨i, List.mem_filter.2 ⟨List.mem_range.2 (hs.un i l hl).1, hx⟩, rfl⟩

theorem sorted_unl {s : St} {ss : List Int} (h : ss.Perm (s.unl.map (fun (i : Nat) => (i : Int)))) : ss.mergeSort (fun x y => decide (x ≤ y)) = s.unl.map (fun (i : Nat) => (i : Int)) := by
  refine List.Perm.eq_of_pairwise (le := fun x y => x ≤ y) (fun a b _ _ h1 h2 => by omega) ?_ ?_ ((List.mergeSort_perm _ _).trans h)
  · have := List.pairwise_mergeSort (le := fun (x y : Int) => decide (x ≤ y)) (by intro a b c; simp; omega) (by intro a b; simp; omega) ss
    exact this.imp (by simp)
  · refine List.pairwise_map.2 ((List.Pairwise.filter _ List.pairwise_lt_range).imp (fun {a b} h => ?_))
    omega

set_option maxHeartbeats 4000000 in
theorem unsafe_c (w : World) (g bm : Nat) (s : St) (h : At w g bm s) (hs : s.Ok) :
    Calls Try.prog 67 #[.pointer (some ⟨g, 0, none⟩)] w fun e w' => ∃ v, e = .returned v ∧ IntsAt w' v (s.unl.map (fun (i : Nat) => (i : Int))) ∧ (∀ a n c, v = .slice (some a) n c → w.heap.size ≤ a.block) ∧ Fr (fun _ => False) w w' := by
  obtain ⟨⟨kv, h1, h2⟩, m, D, hown, hsays, hk⟩ := h
  have hperm := keys_perm (g := g) hs hown hsays hk
  have hlen : Maps.size D ≤ 4096 := by
    have h5 : Maps.size D = (intKeys D).length := by cases D <;> simp [Maps.size, intKeys]
    rw [h5, ← hperm.length_eq]
    have := List.length_filter_le (fun i => (s.un i).isSome) (List.range s.n)
    have := hs.n2
    simp [St.unl] at *
    omega
  have hmax : Maps.size D ≤ maxLen := by unfold maxLen; omega
  have hbytes : Maps.size D * 8 ≤ 140737488355328 := by omega
  have c1 : w.cell? ⟨g, 1, none⟩ = some (.map (some bm)) := cell_at h1 1
  refine (callsIn_wide (n := 6)).1 ?_
  have hbl := hown.lt
  have hseq : SeqGives Fence.wide 2 Try.prog 72 #[.pointer (some ⟨w.heap.size, 0, none⟩)] encZ (fun ss => ss.Perm (intKeys D)) (Maps.size D) (w.alloc (.cells #[.map (some bm)] 63)) :=
    AnyZI.keys_gives (ρ := Try.keysA_ren) { Try.keysA with } Fence.wide _ trivial rfl (by omega) w.heap.size bm m D _ (by simp) (by simp) (by
      obtain ⟨es, clock, hb, Ft, hs, hD⟩ := hown
      exact ⟨es, clock, (Below.heap_alloc _ _ bm hbl).trans hb, Ft, hs, hD⟩)
  have cK : ∀ mb W, CallsIn Fence.wide 5 Try.prog 69 #[.map mb] W fun e w' => e = .returned (.func (.func 72) #[] #[.pointer (some ⟨W.heap.size, 0, none⟩)]) ∧ w' = W.alloc (.cells #[.map mb] 63) := fun mb W => AnyZI.keys_in Try.keysA Fence.wide 5 trivial rfl mb W
  have cS := AnyZI.sorted_in Try.sortedA Fence.wide 5 trivial trivial trivial trivial rfl (by omega) (sortsA _) (enters_of Try.func71 (by kernel_rfl) rfl) 72 #[.pointer (some ⟨w.heap.size, 0, none⟩)] trivial (enters_of Try.func72 (by kernel_rfl) rfl) _ _ hmax hbytes _ hseq
  change CallsIn _ _ Try.prog 68 _ _ _ at cS
  have hfK : Fence.wide.fn 69 := trivial
  have hfS : Fence.wide.fn 68 := trivial
  have HP := (show Hid _ from hperm)
  clear hperm hown hsays hk hlen hs h1 h2
  refine callsIn_of_wp Try.func67 rfl trivial ?_ rfl
  simp only [Try.ntmps67, List.size_toArray, List.length_cons, List.length_nil, Nat.reduceAdd, Nat.reduceSub, Array.replicate_succ, Array.replicate_zero, List.push_toArray, List.append_toArray, List.nil_append, List.cons_append]
  gi_wp2_with (first
    | (gi_at_call 69; refine (cK _ _).mono ?_; rintro e w' ⟨rfl, rfl⟩)
    | (gi_at_call 68; refine cS.mono ?_; rintro e w' ⟨v, ss, rfl, hS, hrow, hnil, hb⟩))
  go_ret
  have hss : ss.Perm (s.unl.map (fun (i : Nat) => (i : Int))) := hS.trans HP.out.symm
  rw [sorted_unl hss] at hrow
  have hl : ss.length = s.unl.length := by have := hss.length_eq; simpa using this
  rw [hl] at hrow
  have hF : Fr (fun _ => False) w w' := ((Fr.refl _ w).alloc _).trans (Fr.below hb (fun _ => False)) (fun _ _ f => f)
  obtain ⟨hx1, hx2⟩ := hrow
  refine ⟨v, rfl, ?_, ?_, hF⟩
  · rcases hx2 with ⟨rfl, h0⟩ | ⟨b, cap, cur, rfl, hb1, hb2, hb3, hb4, hb5, hb6⟩
    · refine ⟨none, 0, by simp [h0], by simp [h0], Or.inl ?_, fun x hx => by cases hx⟩
      have : s.unl = [] := List.length_eq_zero_iff.1 h0
      simp [this]
    · refine ⟨some ⟨b, 0, none⟩, cap, by simp, by unfold maxLen at hb4; simp; omega, Or.inr ⟨b, 0, cur, rfl, hb2, fun j hj => ?_⟩, fun x hx => by cases hx; rfl⟩
      have hj' : j < s.unl.length := by simpa using hj
      have h5 : (cur.toList.take (s.unl.length * 1))[j]? = ((s.unl.map (fun (i : Nat) => (i : Int))).map encZ)[j]? := by rw [hb6]
      rw [List.getElem?_take_of_lt (by omega)] at h5
      rw [Nat.zero_add]
      have h6 : cur[j]? = cur.toList[j]? := by simp
      rw [h6, h5]
      simp [hj', List.getD_eq_getElem?_getD, encZ]
  · rintro a n c rfl
    rcases hx2 with ⟨h0, _⟩ | ⟨b, cap, cur, h0, hb1, _⟩
    · cases h0
    · cases h0
      simp at hb1
      show w.heap.size ≤ b
      omega

end Go.Proofs.Ytjkhcfdflcndkaa.D
