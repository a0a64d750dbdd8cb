/-
  A pager over a calm disk: what Format leaves; laidOut. No condition.
-/
import Derived.Test.YtjkhcfdflcndkaaGZ
namespace Go.Proofs.Ytjkhcfdflcndkaa.D
open Go.RowKit Go.Maps Go.Shelf
set_option linter.unusedVariables false
set_option linter.unusedSimpArgs false

/-- A disk all of whose sectors are safe, in which no power is armed and that is not dead. -/
structure Calm (S : St) : Prop where
  ok : S.Ok
  un : S.un = fun _ => none
  armed : S.armed = 0
  dead : S.dead = false

theorem sync_calm {S : St} (hs : S.Ok) (ha : S.armed = 0) (hd : S.dead = false) : S.sync = (S.becomes S.image, 0) := by
  have h1 : S.step = (S, false) := by unfold St.step; rw [if_pos ha]
  unfold St.sync
  rw [if_neg (by simp [hd]), h1]
  simp

theorem write_calm0 {S : St} (ha : S.armed = 0) (hd : S.dead = false) (a : Nat) (l : List UInt8) (hl : l.length = 64) (hn : a < S.n) : S.write a l = ({ S with un := wun 1 a l S.un }, 0) := by
  obtain ⟨h1, _, h3⟩ := write_calm S ha hd (a : Int) l
  have hb : ¬ badW S.n (a : Int) l := by
    unfold badW
    rw [hl]
    rintro (e | e | e | e) <;> omega
  have h3 := h3 hb
  rw [hl] at h3
  rw [code_bad.2 hb] at h1
  exact Prod.ext h3 h1

theorem fmt_calm {S : St} (hs : S.Ok) (ha : S.armed = 0) (hd : S.dead = false) (hn : 2 ≤ S.n) (n : Nat) :
    fmtP S n = (({ S with un := wun 1 0 (headB 2 0 n) (wun 1 1 (List.replicate 64 0) S.un) } : St).becomes ({ S with un := wun 1 0 (headB 2 0 n) (wun 1 1 (List.replicate 64 0) S.un) } : St).image, 0) := by
  have w1 : S.write 1 (List.replicate 64 0) = ({ S with un := wun 1 1 (List.replicate 64 0) S.un }, 0) := write_calm0 ha hd 1 _ List.length_replicate (by omega)
  have h1 := (write_ok hs 1 (List.replicate 64 0)).1
  rw [w1] at h1
  have w2 : ({ S with un := wun 1 1 (List.replicate 64 0) S.un } : St).write 0 (headB 2 0 n) = ({ S with un := wun 1 0 (headB 2 0 n) (wun 1 1 (List.replicate 64 0) S.un) }, 0) :=
    write_calm0 (S := { S with un := wun 1 1 (List.replicate 64 0) S.un }) ha hd 0 _ (headB_len 2 0 n) (show 0 < S.n by omega)
  have h2 := (write_ok h1 0 (headB 2 0 n)).1
  simp only at w2 h2
  rw [w2] at h2
  have w3 := sync_calm (S := { S with un := wun 1 0 (headB 2 0 n) (wun 1 1 (List.replicate 64 0) S.un) }) h2 ha hd
  unfold fmtP
  simp only [w1, w2, w3]
  rw [if_neg (by simp), if_neg (by simp), if_neg (by simp)]

theorem pchk_zero {S : St} {f c n : Int} (h1 : 2 ≤ f) (h2 : 1 ≤ c) (h3 : c ≤ 4096) (h4 : f + 8 * c ≤ S.n) (h5 : 1 ≤ n) (h6 : n ≤ 1152921504606846976) (h7 : S.dead = false) : pchk S f c n = 0 := by
  unfold pchk
  rw [if_neg (by omega), if_neg (by simp [h7])]

/-- A pager of n pages, as Format lays it over noughts. -/
def laidS (n : Nat) : St := news (zero (64 * (2 + 8 * n)))
def laidP (n : Nat) : PSt := PSt.of 2 n (2, -1, 1)
theorem laid_image {n : Nat} (hn : n ≤ 60) : IsImage (zero (64 * (2 + 8 * n))) := by
  unfold IsImage zero
  rw [List.length_replicate]
  omega
theorem laid_n (n : Nat) : (laidS n).n = 2 + 8 * n := by
  unfold laidS St.n news zero
  simp
theorem laid_format {n : Nat} (h1 : 1 ≤ n) (hn : n ≤ 60) : formatP (laidS n) 2 n 1 = (some (laidP n), (fmtP (laidS n) 1).1, 0) := by
  have hok := news_ok (laid_image hn)
  have hN := laid_n n
  have hc : pchk (laidS n) 2 n 1 = 0 := pchk_zero (by omega) (by omega) (by omega) (by omega) (by omega) (by omega) rfl
  have hf := fmt_calm (S := laidS n) hok rfl rfl (by omega) 1
  have h0 : (fmtP (laidS n) 1).2 = 0 := by rw [hf]
  unfold formatP
  rw [if_neg (by rw [hc]; decide)]
  have e1 : (1 : Int).toNat = 1 := rfl
  have e2 : (2 : Int).toNat = 2 := rfl
  rw [e1, e2, Int.toNat_natCast, if_neg (by rw [h0]; decide)]
  rfl

set_option maxHeartbeats 4000000 in
set_option maxRecDepth 100000 in
theorem laidOut_c (w : World) (n : Nat) (h1 : 1 ≤ n) (hn : n ≤ 60) :
    Calls Try.prog 5 #[.int .i64 n] w fun e w' => ∃ p g bm ml mt, e = .returned (.pointer (some ⟨p, 0, none⟩)) ∧ PW w w' p g bm ml mt (laidP n) (fmtP (laidS n) 1).1 := by
  obtain ⟨M, hM⟩ : ∃ M : Nat, M = 64 * (2 + 8 * n) := ⟨_, rfl⟩
  have hmk : (Instr.makeSlice 36 (.int .i64 (M : Int)) (.int .i64 (M : Int))).run Try.prog w = .ok (.slice (some ⟨w.heap.size, 0, none⟩) M M) (w.alloc (.cells (bytesOf (zero M)).toArray 5)) := mkz M (by omega) w
  have hms := mks M w
  have HN1 := hid (new_c (w.alloc (.cells (bytesOf (zero M)).toArray 5)) (zero M) (hM ▸ laid_image hn))
  have hf1 := hid (show Fr (fun _ => False) w (w.alloc (.cells (bytesOf (zero M)).toArray 5)) from (Fr.refl _ w).alloc _)
  obtain ⟨Z, hZ⟩ : ∃ Z, Z = zero M := ⟨_, rfl⟩
  rw [← hZ] at hmk hms HN1 hf1
  have hS := hid (show news Z = laidS n by rw [hZ, hM]; rfl)
  have e1 : 64 * (2 + 8 * (n : Int)) = (M : Int) := by omega
  have e2 : (2 + 8 * (n : Int)) * 64 = (M : Int) := by omega
  have hM2 : M ≤ 100000 := by omega
  have HFM := hid (laid_format h1 hn)
  have hok := news_ok (laid_image hn)
  have HOK := hid (show (laidS n).Ok from hok)
  clear hZ hM hok
  go_enter Try.func5, Try.ntmps5
  go_wp2_with fail
  refine HN1.out.mono ?_
  rintro e w2 ⟨g, bm, rfl, hA2, hg2, hb2, hf2⟩
  rw [hS.out] at hA2
  have HA2 := hid hA2
  have HF2 := hid (hf1.out.trans hf2 (fun _ _ f => f))
  have HL2 := hid (And.intro (Nat.le_trans hf1.out.size hg2) (Nat.le_trans hf1.out.size hb2))
  clear hA2 hg2 hb2 hf2 hmk hms HN1 hf1 e1 e2
  have HFC := hid (pformat_c w2 g bm (laidS n) HA2.out HOK.out 2 n 1 (by decide) (by decide))
  unfold PFmtC at HFC
  go_wp2_with fail
  refine HFC.out.mono ?_
  rintro e w3 ⟨hf3, h3, _⟩
  rw [HFM.out] at h3
  obtain ⟨p, ml, mt, bm3, rfl, hP3, l1, l2, l3, l4⟩ := h3 (laidP n) rfl
  have HP3 := hid (show PW w w3 p g bm3 ml mt (laidP n) (fmtP (laidS n) 1).1 from by
    have h1 := HL2.out
    have h2 := HF2.out.size
    exact ⟨hP3, HF2.out.trans hf3 (fun i hi e => by omega), by omega⟩)
  clear hf3 h3 hP3 l1 l2 l3 l4
  go_wp2_with fail
  go_ret
  exact ⟨p, g, bm3, ml, mt, rfl, HP3.out⟩

end Go.Proofs.Ytjkhcfdflcndkaa.D
