/-
  SameTexts; both disks of an image. No condition beyond the sizes that are named.
-/
import Derived.Test.YthmnchemfigneaaGreatV4
namespace Go.Proofs.YthmnchemfigneaaGreat.D
open Go.RowKit Go.Maps Go.Shelf
set_option linter.unusedVariables false
set_option linter.unusedSimpArgs false

/-- A slice that reads as these texts. -/
def TV (w : World) (v : Value) (L : List (List UInt8)) : Prop :=
  ∃ p cap, v = .slice p L.length cap ∧ L.length ≤ 9223372036854775807 ∧ (L = [] ∨ ∃ b o, p = some ⟨b, o, none⟩ ∧ ∀ j, j < L.length → w.cell? ⟨b, o + j, none⟩ = some (.string (bs (L.getD j []))))

theorem TV.stay {w w' : World} {v : Value} {L : List (List UInt8)} (h : TV w v L) (hf : Fr (fun _ => False) w w') : TV w' v L := by
  obtain ⟨p, cap, h1, h0, h2⟩ := h
  rcases h2 with h2 | ⟨b, o, rfl, h3⟩
  · exact ⟨p, cap, h1, h0, Or.inl h2⟩
  · exact ⟨_, cap, h1, h0, Or.inr ⟨b, o, rfl, fun j hj => cells_stay hf (h3 j hj)⟩⟩

theorem Texts.tv {w : World} {B : Nat} {v : Value} {L : List (List UInt8)} (h : Texts w B v L) (hl : L.length ≤ 9223372036854775807) : TV w v L := by
  have hh : w.ownsRow B 9 1 v L.length (strs' L) := h
  rcases hh.2 with ⟨rfl, h0⟩ | ⟨b, cap, cur, rfl, _, hb, _, _, _, ht⟩
  · have e : L = [] := List.eq_nil_of_length_eq_zero h0
    subst e
    exact ⟨none, 0, rfl, hl, Or.inl rfl⟩
  · refine ⟨some ⟨b, 0, none⟩, cap, rfl, hl, Or.inr ⟨b, 0, rfl, fun j hj => ?_⟩⟩
    have := hh.cells (g := b) rfl j (.string (bs (L.getD j []))) (by simp [strs', List.getD_eq_getElem?_getD, List.getElem?_eq_getElem hj])
    have e1 : (⟨b, 0, none⟩ : Addr).add j = ⟨b, 0 + j, none⟩ := by unfold Addr.add; split <;> simp_all
    rwa [e1] at this

theorem list_ext_getD {L M : List (List UInt8)} (h : L.length = M.length) (h2 : ∀ j, j < L.length → L.getD j [] = M.getD j []) : L = M := by
  apply List.ext_getElem h
  intro j h3 h4
  have := h2 j h3
  simpa [List.getD_eq_getElem?_getD, h3, h4] using this

set_option maxHeartbeats 4000000 in
set_option maxRecDepth 100000 in
theorem same_texts (w : World) (u v : Value) (L M : List (List UInt8)) (hu : TV w u L) (hv : TV w v M) :
    Calls Tryz.prog 48 #[u, v] w fun e w' => e = .returned (.bool (decide (L = M))) ∧ Fr (fun _ => False) w w' := by
  obtain ⟨p, c, rfl, hl, hp⟩ := hu
  obtain ⟨q, d, rfl, hm, hq⟩ := hv
  by_cases hlen : L.length = M.length
  · have q1 : ((L.length : Int) != (M.length : Int)) = false := by simp [hlen]
    obtain ⟨n, hn⟩ : ∃ n, n = L.length := ⟨_, rfl⟩
    have hn2 : M.length = n := by omega
    rw [hn2] at q1 ⊢
    rw [← hn] at q1 hl ⊢
    have HP := hid hp
    have HQ := hid hq
    have HL := hid (And.intro hn hn2)
    clear hp hq hlen hm hn hn2
    go_enter Tryz.func48, Tryz.ntmps48
    go_wp2_with fail
    go_loopw [5] (fun v wr => ∃ k : Nat, v = .int .i64 k ∧ k ≤ n ∧ Hid (∀ j, j < k → L.getD j [] = M.getD j []) ∧ Hid (Fr (fun _ => False) w wr)) (fun v _ => n - (intOf v).toNat)
    case atStart => exact ⟨0, rfl, by omega, hid (fun j hj => by omega), hid (Fr.refl _ _)⟩
    case round =>
      obtain ⟨k, rfl, hk, HE, HF⟩ := hrel
      by_cases hend : k = n
      · have HX := hid (show L = M from list_ext_getD (by have := HL.out; omega) (fun j hj => HE.out j (by have := HL.out; omega)))
        subst hend
        go_wp2_with fail
        go_ret
        exact ⟨by rw [decide_eq_true HX.out]; rfl, HF.out⟩
      · have hk' : k < n := by omega
        obtain ⟨b1, o1, rfl, g1⟩ : ∃ b o, p = some ⟨b, o, none⟩ ∧ ∀ j, j < L.length → w.cell? ⟨b, o + j, none⟩ = some (.string (bs (L.getD j []))) := by
          rcases HP.out with h | h
          · have := HL.out; rw [h] at this; simp at this; omega
          · exact h
        obtain ⟨b2, o2, rfl, g2⟩ : ∃ b o, q = some ⟨b, o, none⟩ ∧ ∀ j, j < M.length → w.cell? ⟨b, o + j, none⟩ = some (.string (bs (M.getD j []))) := by
          rcases HQ.out with h | h
          · have := HL.out; rw [h] at this; simp at this; omega
          · exact h
        obtain ⟨x, hx⟩ : ∃ x, x = L.getD k [] := ⟨_, rfl⟩
        obtain ⟨y, hy⟩ : ∃ y, y = M.getD k [] := ⟨_, rfl⟩
        have c1 : wr.cell? ⟨b1, o1 + k, none⟩ = some (.string (bs x)) := hx ▸ cells_stay HF.out (g1 k (by have := HL.out; omega))
        have c2 : wr.cell? ⟨b2, o2 + k, none⟩ = some (.string (bs y)) := hy ▸ cells_stay HF.out (g2 k (by have := HL.out; omega))
        by_cases hxy : x = y
        · have HS := hid (show ∀ j, j < k + 1 → L.getD j [] = M.getD j [] from fun j hj => by
            by_cases e : j = k
            · subst e; rw [← hx, ← hy, hxy]
            · exact HE.out j (by omega))
          have qq : (x == y) = true := by simpa using hxy
          have q2 : (!x == y) = false := by rw [qq]; rfl
          clear g1 g2 hx hy hxy hend HP HQ
          go_wp2_with fail
          go_quiet (fail)
          go_wp2_with fail
          go_roundw
          case rel => exact ⟨k + 1, by go_num, by omega, HS, hid (HF.out.trans fr_drewN (fun _ _ f => f))⟩
          case measure => simp [intOf]; omega
        · have HX := hid (show L ≠ M from fun e => hxy (by rw [hx, hy, e]))
          have qq : (x == y) = false := by simpa using hxy
          have q2 : (!x == y) = true := by rw [qq]; rfl
          clear g1 g2 hx hy hxy hend HP HQ
          go_wp2_with fail
          go_quiet (fail)
          go_wp2_with fail
          go_ret
          exact ⟨by rw [decide_eq_false HX.out]; rfl, HF.out.trans fr_drewN (fun _ _ f => f)⟩
  · have q1 : ((L.length : Int) != (M.length : Int)) = true := by simp; omega
    have HX := hid (show L ≠ M from fun e => hlen (by rw [e]))
    clear hp hq hlen
    go_enter Tryz.func48, Tryz.ntmps48
    go_wp2_with fail
    go_ret
    exact ⟨by rw [decide_eq_false HX.out]; rfl, Fr.refl _ _⟩

/-- The image that is made to fit. -/
def imgOf (l : List UInt8) : List UInt8 := l.take 6400 ++ zero (64 - (l.take 6400).length % 64)
theorem imgOf_ok (l : List UInt8) : IsImage (imgOf l) := by
  have h : (imgOf l).length = (l.take 6400).length + (64 - (l.take 6400).length % 64) := by simp [imgOf, zero]
  have h2 : (l.take 6400).length ≤ 6400 := by rw [List.length_take]; omega
  exact ⟨by omega, by omega, by omega⟩

set_option maxHeartbeats 4000000 in
set_option maxRecDepth 100000 in
theorem disks_c (w : World) (l : List UInt8) (hl : l.length ≤ 9223372036854775807) :
    Calls Tryz.prog 4 #[.string (bs l)] w fun e w' => ∃ g bm m b1 b2 N, e = .returned (.tuple #[.pointer (some ⟨g, 0, none⟩), .pointer (some ⟨m, 0, none⟩)]) ∧ DJ w w' g bm m b1 b2 N (news (imgOf l)) (news (imgOf l)) := by
  have hz : (bs l).size = l.length := by simp [bs, ByteArray.size]
  obtain ⟨q, hq⟩ : ∃ q, q = min l.length 6400 := ⟨_, rfl⟩
  have hmin : ∀ w, (Builtin.min_ #[3, 3] 3 #[.int .i64 (l.length : Int), .int .i64 6400]).run Tryz.prog w = .ok (.int .i64 (q : Int)) w := by
    intro w
    rw [run_min_int2]
    congr 2
    split <;> omega
  obtain ⟨T, hT⟩ : ∃ T, T = l.take q := ⟨_, rfl⟩
  have hTl : T.length = q := by rw [hT, List.length_take]; omega
  have hq2 : q ≤ 6400 := by omega
  have hs1 : ∀ w, (Instr.slice 9 (.string (bs l)) none (some (.int .i64 (q : Int))) none).run Tryz.prog w = .ok (.string (bs T)) w := fun w => by
    have := slice_to (P := Tryz.prog) 9 Tryz.underlying9 w l (q : Int) (by omega) (by omega)
    rwa [Int.toNat_natCast, ← hT] at this
  obtain ⟨z, hzz⟩ : ∃ z, z = 64 - q % 64 := ⟨_, rfl⟩
  have hz64 : z ≤ 64 := by omega
  have ez : (64 : Int) - (T.length : Int) % 64 = (z : Int) := by rw [hTl]; omega
  have hmk := mkz z (by omega) w
  have hms := mks z w
  have eim : T ++ zero z = imgOf l := by
    have e1 : T = l.take 6400 := by
      rw [hT, hq]
      by_cases h : l.length ≤ 6400
      · rw [Nat.min_eq_left h, List.take_length, List.take_of_length_le h]
      · rw [Nat.min_eq_right (by omega)]
    unfold imgOf
    rw [← e1, hzz, hTl]
  have hst : Value.string (bs T ++ bs (zero z)) = Value.string (bs (imgOf l)) := by rw [addBs, eim]
  have HOK := hid (imgOf_ok l)
  obtain ⟨im, him⟩ : ∃ im, im = imgOf l := ⟨_, rfl⟩
  rw [← him] at hst HOK ⊢
  have HST := hid hst
  have lz : (zero z).length ≤ 64 := by simp [zero]; omega
  have lT : T.length ≤ 6400 := by omega
  have HN1 := hid (fun W : World => new_c W im HOK.out)
  have HN2 := hid (fun W : World => rnew_c W im HOK.out)
  have HF0 := hid (show Fr (fun _ => False) w (w.alloc (.cells (bytesOf (zero z)).toArray 5)) from (Fr.refl _ w).alloc _)
  clear hq hT hTl hzz eim hst him
  go_enter Tryz.func4, Tryz.ntmps4
  go_wp2_with fail
  rw [show bs T ++ bs (zero z) = bs im from by have := HST.out; simpa using this]
  refine (HN1.out _).mono ?_
  rintro e w2 ⟨g, bm, rfl, hA2, hg2, hb2, hf2⟩
  have HA2 := hid hA2
  have HL2 := hid (And.intro hg2 hb2)
  have HF2 := hid (HF0.out.trans hf2 (fun _ _ f => f))
  clear hA2 hg2 hb2 hf2
  go_wp2_with fail
  refine (HN2.out _).mono ?_
  rintro e w3 ⟨m, rfl, hA3, hb3⟩
  have HA3 := hid hA3
  have HB3 := hid hb3
  clear hA3 hb3
  go_wp2_with fail
  go_ret2
  obtain ⟨b1, b2, hra, l1, l2, l3⟩ := RAt.ra HOK.out HA3.out
  have hf3 : Fr (fun _ => False) w2 w3 := Fr.below HB3.out _
  have h1 := HF0.out.size
  have h2 := HF2.out.size
  obtain ⟨g1, g2⟩ := HL2.out
  exact ⟨g, bm, m, b1, b2, (news im).n, rfl, HA2.out.stay hf3, hra, news_ok HOK.out, news_ok HOK.out, ⟨rfl, rfl⟩, HF2.out.trans hf3 (fun _ _ f => f), by omega, by omega, by omega, by omega, by omega⟩

end Go.Proofs.YthmnchemfigneaaGreat.D
