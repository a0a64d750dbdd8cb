/-
  Texts that a call owns; live, stands. No condition beyond the sizes that are named.
-/
import Derived.Test.YtjkhcfdflcndkaaGK3
import Derived.Deep.QuietTactic
import Derived.Lib.SmallJoins
namespace Go.Proofs.Ytjkhcfdflcndkaa.D
open Go.RowKit Go.Maps Go.Shelf
set_option linter.unusedVariables false
set_option linter.unusedSimpArgs false

def strs' (L : List (List UInt8)) : List Value := L.map (fun l => Value.string (bs l))
/-- A slice of texts that a call owns. -/
def Texts (w : World) (B : Nat) (v : Value) (L : List (List UInt8)) : Prop := w.ownsRow B 9 1 v L.length (strs' L)

theorem Texts.stay {w w' : World} {B : Nat} {v : Value} {L : List (List UInt8)} (h : Texts w B v L) (hf : Fr (fun _ => False) w w') : Texts w' B v L := by
  have hg : w.grownBy w' none := ⟨hf.os, hf.tape, hf.output, hf.size, fun k hk _ => hf.block k hk (fun f => f)⟩
  exact World.ownsRow.kept h hg (by cases hv : v.ownBlock <;> simp)
theorem Texts.block {w : World} {B : Nat} {v : Value} {L : List (List UInt8)} (h : Texts w B v L) {b : Nat} (hb : v.ownBlock = some b) : B ≤ b ∧ ∃ c, w.heap[b]? = some (.cells c 9) := by
  have hh : w.ownsRow B 9 1 v L.length (strs' L) := h
  rcases hh.2 with ⟨rfl, h0⟩ | ⟨b', cap, cur, rfl, h1, h2, _⟩
  · simp [Value.ownBlock] at hb
  · simp only [Value.ownBlock, Option.some.injEq] at hb
    subst hb
    exact ⟨h1, cur, h2⟩
theorem Texts.keep {S : Nat → Prop} {w w' : World} {B : Nat} {v : Value} {L : List (List UInt8)} (h : Texts w B v L) (hf : Fr S w w') (hn : ∀ b, v.ownBlock = some b → ¬ S b) : Texts w' B v L := by
  have hh : w.ownsRow B 9 1 v L.length (strs' L) := h
  show w'.ownsRow B 9 1 v L.length (strs' L)
  refine ⟨hh.1, ?_⟩
  rcases hh.2 with h0 | ⟨b', cap, cur, rfl, h1, h2, h3⟩
  · exact Or.inl h0
  · exact Or.inr ⟨b', cap, cur, rfl, h1, hf.at h2 (hn b' rfl), h3⟩
theorem Texts.low {w : World} {B B' : Nat} {v : Value} {L : List (List UInt8)} (h : Texts w B v L) (hb : B' ≤ B) : Texts w B' v L := by
  have hh : w.ownsRow B 9 1 v L.length (strs' L) := h
  refine ⟨hh.1, ?_⟩
  rcases hh.2 with h0 | ⟨b', cap, cur, rfl, h1, h2, h3⟩
  · exact Or.inl h0
  · exact Or.inr ⟨b', cap, cur, rfl, by omega, h2, h3⟩

/-- A slice that reads as these texts. -/
def TV (w : World) (v : Value) (L : List (List UInt8)) : Prop :=
  ∃ p cap, v = .slice p L.length cap ∧ L.length ≤ 9223372036854775807 ∧ (L = [] ∨ ∃ b o, p = some ⟨b, o, none⟩ ∧ ∀ j, j < L.length → w.cell? ⟨b, o + j, none⟩ = some (.string (bs (L.getD j []))))
theorem TV.stay {w w' : World} {v : Value} {L : List (List UInt8)} (h : TV w v L) (hf : Fr (fun _ => False) w w') : TV w' v L := by
  obtain ⟨p, cap, h1, h0, h2⟩ := h
  rcases h2 with h2 | ⟨b, o, rfl, h3⟩
  · exact ⟨p, cap, h1, h0, Or.inl h2⟩
  · exact ⟨_, cap, h1, h0, Or.inr ⟨b, o, rfl, fun j hj => cells_stay2 hf (h3 j hj)⟩⟩
theorem Texts.tv {w : World} {B : Nat} {v : Value} {L : List (List UInt8)} (h : Texts w B v L) (hl : L.length ≤ 9223372036854775807) : TV w v L := by
  have hh : w.ownsRow B 9 1 v L.length (strs' L) := h
  rcases hh.2 with ⟨rfl, h0⟩ | ⟨b, cap, cur, rfl, _, hb, _, _, _, ht⟩
  · have e : L = [] := List.eq_nil_of_length_eq_zero h0
    subst e
    exact ⟨none, 0, rfl, hl, Or.inl rfl⟩
  · refine ⟨some ⟨b, 0, none⟩, cap, rfl, hl, Or.inr ⟨b, 0, rfl, fun j hj => ?_⟩⟩
    have := hh.cells (g := b) rfl j (.string (bs (L.getD j []))) (by simp [strs', List.getD_eq_getElem?_getD, List.getElem?_eq_getElem hj])
    rw [addr_add] at this
    rwa [Nat.zero_add]
theorem list_ext_getD {L M : List (List UInt8)} (h : L.length = M.length) (h2 : ∀ j, j < L.length → L.getD j [] = M.getD j []) : L = M := by
  apply List.ext_getElem h
  intro j h3 h4
  have := h2 j h3
  simpa [List.getD_eq_getElem?_getD, h3, h4] using this

/-- One more text. -/
theorem Texts.push {w : World} {B : Nat} {v : Value} {L : List (List UInt8)} (h : Texts w B v L) (hB : B ≤ w.heap.size) (hl : L.length ≤ 2199023255552) (b : Nat) (t : List UInt8) (hb : w.heap[b]? = some (.cells #[.string (bs t)] 9)) (ty : TypeId) :
    ∃ v' w', (Builtin.append_ #[40, 40] ty #[v, .slice (some ⟨b, 0, none⟩) 1 1]).run Try.prog w = .ok v' w' ∧ Texts w' B v' (L ++ [t]) ∧ w.grownBy w' v.ownBlock := by
  obtain ⟨i0, hi0, hz0, hz1, hz2⟩ := info_parts (show (Try.prog.info? 9).map (fun i => (i.zero, i.size, i.bytes)) = some (some (.string (bs [])), 1, 16) by kernel_rfl)
  obtain ⟨v', w', hrun, hown2, hgr2, _⟩ := run_append_own (P := Try.prog) w B 40 ty 9 i0 (.string (bs [])) 1 16 Try.underlying40 hi0 hz0 hz1 hz2 rfl (by decide)
    v L.length (strs' L) h ⟨b, 0, none⟩ 1 1 [.string (bs t)] rfl (by
      intro j u hj
      have hj0 : j = 0 := by have := (List.getElem?_eq_some_iff.1 hj).1; simpa using this
      subst hj0
      simp at hj
      subst hj
      rw [addr_add]
      exact cell_at hb 0) (by intro u hu; simp at hu; subst hu; rfl) (by unfold maxLen; omega) (by omega) hB
  refine ⟨v', w', hrun, ?_, hgr2⟩
  unfold Texts
  simp only [strs', List.map_append, List.map_cons, List.map_nil, List.length_append, List.length_cons, List.length_nil]
  exact hown2

def LivePost (w : World) (P : PSt) (S : St) (l : List Int) (e : Ending) (w' : World) : Prop :=
  Fr (fun _ => False) w w' ∧ (liveOk P S l = true → ∃ v, e = .returned (.tuple #[v, .bool true]) ∧ Texts w' w.heap.size v (liveL P S l)) ∧ (liveOk P S l = false → e = .returned (.tuple #[.slice none 0 0, .bool false]))

theorem live_take {P : PSt} {S : St} {l : List Int} {k : Nat} (h : k < l.length) : liveOk P S (l.take (k + 1)) = (liveOk P S (l.take k) && (decide ((P.read S (l.getD k 0)).2 = 0) && decide ((P.read S (l.getD k 0)).1.length = 512))) := by
  rw [take_snoc l k h]
  simp [liveOk]
theorem liveL_take {P : PSt} {S : St} {l : List Int} {k : Nat} (h : k < l.length) : liveL P S (l.take (k + 1)) = liveL P S (l.take k) ++ [(P.read S (l.getD k 0)).1] := by
  rw [take_snoc l k h]
  simp [liveL]
theorem live_not {P : PSt} {S : St} {l : List Int} {k : Nat} (h : k < l.length) (hn : (decide ((P.read S (l.getD k 0)).2 = 0) && decide ((P.read S (l.getD k 0)).1.length = 512)) = false) : liveOk P S l = false := by
  rw [Bool.eq_false_iff]
  intro ha
  unfold liveOk at ha
  rw [List.all_eq_true] at ha
  have := ha (l.getD k 0) (by simp [List.getD_eq_getElem?_getD, List.getElem?_eq_getElem h])
  rw [hn] at this
  cases this

set_option maxHeartbeats 4000000 in
set_option maxRecDepth 100000 in
theorem live_c (w : World) (p g bm ml mt : Nat) (P : PSt) (S : St) (h : PD w p g bm ml mt P S) (hS : S.Ok) (hP : P.Ok S.n) (v : Value) (l : List Int) (hv : IntsV w v l) (hl : l.length ≤ 1099511627776) :
    Calls Try.prog 13 #[.pointer (some ⟨p, 0, none⟩), v] w (LivePost w P S l) := by
  have HV := hid hv
  obtain ⟨a, cap, rfl, h0, _⟩ := hv
  have HD := hid h
  have HS := hid hS
  have HP := hid hP
  obtain ⟨B, hB⟩ : ∃ B, B = w.heap.size := ⟨_, rfl⟩
  have HB := hid hB
  clear h hS hP hB
  go_enter Try.func13, Try.ntmps13
  go_wp2_with fail
  have hf0 : Fr (fun _ => False) w (w.alloc (.cells #[] 9)) := (Fr.refl _ w).alloc _
  have HT0 := hid (show Texts (w.alloc (.cells #[] 9)) B (.slice (some ⟨w.heap.size, 0, none⟩) 0 0) [] from
    ⟨rfl, Or.inr ⟨w.heap.size, 0, #[], rfl, by rw [HB.out]; exact Nat.le_refl _, (MapKept.heap_alloc w _).1, Nat.le_refl _, Nat.zero_le _, rfl, rfl⟩⟩)
  have HF0 := hid hf0
  clear hf0
  go_loopw [6, 7] (fun v6 v7 wr => ∃ (i gb cp : Nat), v7 = .int .i64 i ∧ v6 = .slice (some ⟨gb, 0, none⟩) i cp ∧ i ≤ l.length ∧ Hid (liveOk P S (l.take i) = true) ∧ Hid (Texts wr B (.slice (some ⟨gb, 0, none⟩) i cp) (liveL P S (l.take i))) ∧ Hid (Fr (fun _ => False) w wr)) (fun _ v _ => l.length - (intOf v).toNat)
  case atStart => exact ⟨0, w.heap.size, 0, rfl, rfl, by omega, hid rfl, HT0, HF0⟩
  case round =>
    obtain ⟨i, gb, cp, rfl, rfl, hi, HA, HT, HF⟩ := hrel
    by_cases hend : i = l.length
    · subst hend
      have HLT := hid (show (l.take l.length) = l from List.take_length)
      go_wp2_with fail
      go_ret2
      refine ⟨HF.out, fun _ => ⟨_, rfl, ?_⟩, fun e => ?_⟩
      · have := HT.out
        rwa [HLT.out, HB.out] at this
      · have := HA.out
        rw [HLT.out, e] at this
        cases this
    · have hi' : i < l.length := by omega
      obtain ⟨x, hx⟩ : ∃ x, x = l.getD i 0 := ⟨_, rfl⟩
      obtain ⟨b0, o, rfl, h3⟩ : ∃ b0 o, a = some ⟨b0, o, none⟩ ∧ w.cell? ⟨b0, o + i, none⟩ = some (.int .i64 x) := by
        obtain ⟨a', cap', e1, _, h2⟩ := HV.out
        injection e1 with e1 _ _
        subst e1
        rcases h2 with h2 | ⟨b0, o, h2, h3⟩
        · rw [h2] at hi'; simp at hi'
        · exact ⟨b0, o, h2, hx ▸ h3 i hi'⟩
      have ce := cells_stay2 HF.out h3
      obtain ⟨R, hR⟩ : ∃ R, R = P.read S x := ⟨_, rfl⟩
      have HRD := hid (show Calls Try.prog 27 #[.pointer (some ⟨p, 0, none⟩), .int .i64 x] wr fun e w' => e = .returned (.tuple #[.string (bs R.1), .int .i64 R.2]) ∧ Fr (fun _ => False) wr w' from by
        have hd := HD.out.stay HF.out
        have := pread_c wr p g ml mt bm P S hd.pa hd.da HS.out HP.out x
        rwa [← hR] at this)
      have HLEN := hid hi'
      have HRX := hid (show R = P.read S (l.getD i 0) by rw [hR, hx])
      obtain ⟨c, hc⟩ : ∃ c, c = R.2 := ⟨_, rfl⟩
      obtain ⟨T, hT⟩ : ∃ T, T = R.1 := ⟨_, rfl⟩
      rw [← hc, ← hT] at HRD
      have HCT := hid (And.intro hc hT)
      clear h3 hx hR hend hc hT
      go_wp2_with fail
      refine HRD.out.mono ?_
      rintro e w4 ⟨rfl, hf4⟩
      have HF4 := hid (HF.out.trans hf4 (fun _ _ f => f))
      have HT4 := hid (HT.out.stay hf4)
      clear hf4 ce
      by_cases hc0 : c = 0
      · by_cases hl5 : T.length = 512
        · have HOK := hid (show liveOk P S (l.take (i + 1)) = true by
            rw [live_take HLEN.out, HA.out, ← HRX.out, ← HCT.out.1, ← HCT.out.2, hc0, hl5]
            rfl)
          have HLL := hid (show liveL P S (l.take (i + 1)) = liveL P S (l.take i) ++ [T] by rw [liveL_take HLEN.out, ← HRX.out, ← HCT.out.2])
          subst hc0
          have q : ((T.length : Int) != 512) = false := by simp [hl5]
          have q2 : ((T.length : Int) == 512) = true := by simp [hl5]
          have hLl : (liveL P S (l.take i)).length = i := by unfold liveL; rw [List.length_map, List.length_take]; omega
          have hfa : Fr (fun _ => False) w4 (w4.alloc (.cells #[.string (bs T)] 9)) := (Fr.refl _ w4).alloc _
          obtain ⟨v', w5, hrun, hT5, hg5⟩ := (HT4.out.stay hfa).push (by have := HF4.out.size; have := hfa.size; have := HB.out; omega) (by rw [hLl]; omega) w4.heap.size T (MapKept.heap_alloc w4 _).1 40
          have HF5 := hid (((HF4.out.trans hfa (fun _ _ f => f)).grown hg5 (fun k hk hk2 => by
            have := (HT4.out.block hk).1
            have := HB.out
            omega)))
          have hform : ∃ g' c', v' = .slice (some ⟨g', 0, none⟩) (i + 1) c' := by
            have hh : w5.ownsRow B 9 1 v' (liveL P S (l.take i) ++ [T]).length (strs' (liveL P S (l.take i) ++ [T])) := hT5
            have e9 : (liveL P S (l.take i) ++ [T]).length = i + 1 := by simp [hLl]
            rw [e9] at hh
            exact Joins.ownsRow_form hh (by omega)
          obtain ⟨g', c', rfl⟩ := hform
          have HT5 := hid hT5
          have HRUN := hid hrun
          clear hfa hT5 hg5 hrun hl5 hLl
          go_wp2_with (first
            | (at_builtin; refine Lib.wpList_append_run _ rfl _ _ _ _ rfl _ _ rfl rfl _ _ HRUN.out ?_))
          refine ⟨⟨i + 1, g', c', by go_num, by simp, by omega, HOK, hid (by rw [HLL.out]; exact HT5.out), HF5⟩, by simp [intOf]; omega⟩
        · have HN := hid (live_not HLEN.out (P := P) (S := S) (by
            rw [← HRX.out, ← HCT.out.2]
            simp [hl5]))
          subst hc0
          have q : ((T.length : Int) != 512) = true := by simp; omega
          have q2 : ((T.length : Int) == 512) = false := by simp; omega
          clear hl5
          go_wp2_with fail
          go_ret2
          refine ⟨HF4.out, fun e => ?_, fun _ => rfl⟩
          rw [HN.out] at e
          cases e
      · have HN := hid (live_not HLEN.out (P := P) (S := S) (by
          rw [← HRX.out, ← HCT.out.1]
          simp [hc0]))
        have q : (c == 0) = false := by simpa using hc0
        have q2 : (c != 0) = true := by simpa using hc0
        clear hc0
        go_wp2_with fail
        go_ret2
        refine ⟨HF4.out, fun e => ?_, fun _ => rfl⟩
        rw [HN.out] at e
        cases e

end Go.Proofs.Ytjkhcfdflcndkaa.D
