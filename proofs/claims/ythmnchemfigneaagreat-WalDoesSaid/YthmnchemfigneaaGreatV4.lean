/-
  The document's form, Read. No condition beyond the disk's own.
-/
import Derived.Test.YthmnchemfigneaaGreatV3
import Derived.Test.YthmnchemfigneaaGreatW5
namespace Go.Proofs.YthmnchemfigneaaGreat.D
open Go.RowKit Go.Maps Go.Shelf
set_option linter.unusedVariables false
set_option linter.unusedSimpArgs false

theorem ahead_stamp {a : List UInt8} {i n : Nat} {r : List UInt8} (h : ahead (a.drop (64 * i)) n = some r) (hn : n < 18446744073709551616) : 64 * i + 64 ≤ a.length ∧ marked a i ∧ stamp a i = n := by
  obtain ⟨h1, h2, _, _, _⟩ := ahead_some h
  have e : piece (a.drop (64 * i)) 0 = piece a i := by simp [piece]
  have hp := ahead_piece h 0 (many_pos _)
  rw [e] at hp
  rw [List.length_drop] at h1
  refine ⟨by omega, ?_, ?_⟩
  · unfold marked
    rw [hp, one_mark]
  · unfold stamp
    rw [hp, one_no, val_be]
    exact Nat.mod_eq_of_lt (by omega)

set_option maxRecDepth 100000 in
theorem form_c (w : World) (g b1 b2 : Nat) (s : St) (h : RA w g b1 b2 s) (hs : s.Ok) (f c n : Int) (hf : -9223372036854775808 ≤ f) (hf2 : f ≤ 9223372036854775807) :
    Calls Tryz.prog 32 #[.pointer (some ⟨g, 0, none⟩), .int .i64 f, .int .i64 c, .int .i64 n] w fun e w' => e = .returned (.int .i64 (chk s f c n)) ∧ w' = w := by
  obtain ⟨⟨c1, c2, kv', h1, h2⟩, _⟩ := h
  have k0 : w.cell? ⟨g, 0, none⟩ = some (.slice (some ⟨b1, 0, none⟩) s.n c1) := cell_at h1 0
  have k4 : w.cell? ⟨g, 4, none⟩ = some (.bool s.dead) := cell_at h1 4
  have hn : s.n ≤ 4096 := hs.n2
  have hn0 : 0 < s.n := hs.n1
  clear h1 h2 hs
  by_cases bad : f < 0 ∨ c < 1 ∨ (s.n : Int) < f ∨ (s.n : Int) - f < c ∨ n < 1 ∨ 1152921504606846976 < n
  · have HE := hid (show chk s f c n = 180 by unfold chk; rw [if_pos bad])
    rw [HE.out]
    by_cases a0 : f < 0
    · clear bad
      go_enter Tryz.func32, Tryz.ntmps32
      go_wp2_with fail
      go_ret
      exact ⟨rfl, rfl⟩
    by_cases c0 : c < 1
    · clear bad
      go_enter Tryz.func32, Tryz.ntmps32
      go_wp2_with fail
      go_ret
      exact ⟨rfl, rfl⟩
    by_cases a1 : (s.n : Int) < f
    · clear bad
      go_enter Tryz.func32, Tryz.ntmps32
      go_wp2_with fail
      go_ret
      exact ⟨rfl, rfl⟩
    by_cases a2 : (s.n : Int) - f < c
    · clear bad
      go_enter Tryz.func32, Tryz.ntmps32
      go_wp2_with fail
      go_ret
      exact ⟨rfl, rfl⟩
    by_cases b0 : n < 1
    · clear bad
      go_enter Tryz.func32, Tryz.ntmps32
      go_wp2_with fail
      go_ret
      exact ⟨rfl, rfl⟩
    · have b1 : 1152921504606846976 < n := by omega
      clear bad
      go_enter Tryz.func32, Tryz.ntmps32
      go_wp2_with fail
      go_ret
      exact ⟨rfl, rfl⟩
  · have HE := hid (show chk s f c n = if s.dead then 2 else 0 by unfold chk; rw [if_neg bad])
    have a0 : ¬ f < 0 := by omega
    have c0 : ¬ c < 1 := by omega
    have a1 : ¬ (s.n : Int) < f := by omega
    have a2 : ¬ (s.n : Int) - f < c := by omega
    have b0 : ¬ n < 1 := by omega
    have b1 : ¬ 1152921504606846976 < n := by omega
    clear bad
    cases hd : s.dead with
    | true =>
      have HE2 := hid (show chk s f c n = 2 by rw [HE.out, hd]; rfl)
      rw [hd] at k4
      rw [HE2.out]
      clear hd
      go_enter Tryz.func32, Tryz.ntmps32
      go_wp2_with fail
      go_ret
      exact ⟨rfl, rfl⟩
    | false =>
      have HE2 := hid (show chk s f c n = 0 by rw [HE.out, hd]; rfl)
      rw [hd] at k4
      rw [HE2.out]
      clear hd
      go_enter Tryz.func32, Tryz.ntmps32
      go_wp2_with fail
      go_ret
      exact ⟨rfl, rfl⟩

def VReadC (w : World) (g : Nat) (s : St) (f c n : Int) : Prop :=
  Calls Tryz.prog 47 #[.pointer (some ⟨g, 0, none⟩), .int .i64 f, .int .i64 c, .int .i64 n] w fun e w' => ∃ v, e = .returned (.tuple #[v, .int .i64 (walRead s f c n).2.1, .int .i64 (walRead s f c n).2.2]) ∧
    Texts w' w.heap.size v (walRead s f c n).1 ∧ Fr (fun _ => False) w w'

set_option maxHeartbeats 4000000 in
set_option maxRecDepth 100000 in
theorem vread_bad (w : World) (g b1 b2 : Nat) (s : St) (h : RA w g b1 b2 s) (hs : s.Ok) (f c n : Int) (hf : -9223372036854775808 ≤ f) (hf2 : f ≤ 9223372036854775807) (he : chk s f c n ≠ 0) : VReadC w g s f c n := by
  have HC := hid (form_c w g b1 b2 s h hs f c n hf hf2)
  have HE := hid (show walRead s f c n = ([], 0, chk s f c n) by unfold walRead; rw [if_pos he])
  have HO := hid (World.ownsRow_nil w w.heap.size 9 1)
  unfold VReadC
  rw [HE.out]
  clear h hs
  obtain ⟨C, hC⟩ : ∃ C, C = chk s f c n := ⟨_, rfl⟩
  rw [← hC] at HC he ⊢
  have q : (C == 0) = false := by simpa using he
  have q2 : (C != 0) = true := by simpa using he
  clear hC he
  go_enter Tryz.func47, Tryz.ntmps47
  go_wp2_with fail
  refine HC.out.mono ?_
  rintro e w2 ⟨rfl, rfl⟩
  go_wp2_with fail
  go_ret3
  exact ⟨_, rfl, HO.out, Fr.refl _ _⟩

set_option maxHeartbeats 8000000 in
set_option maxRecDepth 100000 in
theorem vread_go (w : World) (g b1 b2 : Nat) (s : St) (h : RA w g b1 b2 s) (hs : s.Ok) (f c n : Int) (he : chk s f c n = 0) : VReadC w g s f c n := by
  obtain ⟨hLo, p1, p2, p3, p4, p5⟩ := LSt.begin_ok he
  have hsn := hs.n2
  have HC := hid (form_c w g b1 b2 s h hs f c n (by omega) (by omega))
  rw [he] at HC
  obtain ⟨F, rfl⟩ : ∃ F : Nat, f = F := ⟨f.toNat, by omega⟩
  obtain ⟨C, rfl⟩ : ∃ C : Nat, c = C := ⟨c.toNat, by omega⟩
  obtain ⟨N, rfl⟩ : ∃ N : Nat, n = N := ⟨n.toNat, by omega⟩
  have hdd : s.dead = false := by
    unfold chk at he
    split at he
    · cases he
    · cases hd : s.dead with
      | false => rfl
      | true => rw [hd] at he; simp at he
  obtain ⟨a, hae⟩ : ∃ a, a = secs s F C := ⟨_, rfl⟩
  have hrd : s.read F C = (a, 0) := by rw [hae, St.read, if_neg (by simp [hdd]), if_neg (by omega)]; rfl
  have hal : a.length = 64 * C := by rw [hae]; exact secs_length hs (by omega)
  have HRD := hid (fun w : World => fun hA : RA w g b1 b2 s => show Calls Tryz.prog 67 #[.pointer (some ⟨g, 0, none⟩), .int .i64 (F : Int), .int .i64 (C : Int)] w fun e w' => e = .returned (.tuple #[.string (bs a), .int .i64 0]) ∧ Fr (fun _ => False) w w' by
    have := rread_c w g b1 b2 s hA hs F C (by omega) (by omega)
    unfold RReadC at this
    have e : (secs s F C) = a := hae.symm
    rw [hrd] at this
    exact this)
  obtain ⟨G, hG⟩ : ∃ G, G = great a (N - 1) C := ⟨_, rfl⟩
  have HE := hid (show walRead s F C N = if 1152921504606846976 ≤ G then ([], 0, 180) else (recs a N, (G : Int) + 1, 0) by
    unfold walRead; rw [if_neg (by rw [he]; simp), hrd]; simp only [Int.toNat_natCast, ← hG])
  have hG2 : G < 18446744073709551616 := by rw [hG]; exact great_lt a _ (by omega) C
  have HGL := hid hG2
  have HG := hid hG
  have HA := hid h
  have hC4 : C ≤ 4096 := by omega
  have hN1 : 1 ≤ N := by omega
  obtain ⟨b0, hb0⟩ : ∃ b0, b0 = N - 1 := ⟨_, rfl⟩
  have y0 : ((N : Int) - 1) = (b0 : Int) := by omega
  have y1 : IntKind.u64.wrap (b0 : Int) = (b0 : Int) := by rw [IntKind.wrap_u64]; omega
  have HGG := hid (fun i => great_lt a b0 (by omega) i)
  have HB0 := hid hb0
  have HNB := hid (show N ≤ 1152921504606846976 by omega)
  have HMK := hid (fun (i : Nat) (h : i < C) => show (piece a i).length = 64 by simp only [piece, List.length_take, List.length_drop]; omega)
  unfold VReadC
  clear hLo p1 p2 p3 p4 p5 h he hdd hrd hG hG2 hsn hs hae hb0
  go_enter Tryz.func47, Tryz.ntmps47
  go_wp2_with fail
  refine HC.out.mono ?_
  rintro e w2 ⟨rfl, rfl⟩
  go_wp2_with fail
  refine (HRD.out _ HA.out).mono ?_
  rintro e w3 ⟨rfl, hf3⟩
  have HF3 := hid hf3
  clear hf3
  go_wp2_with fail
  go_loop [15, 14] (fun v v2 => ∃ i : Nat, v = .int .i64 i ∧ i ≤ C ∧ v2 = .int .u64 (great a b0 i)) (fun v _ => C - (intOf v).toNat)
  case atStart => exact ⟨0, rfl, by omega, by rw [IntWalk.wrap64_in _ ⟨by omega, by have := HB0.out; have := HNB.out; omega⟩, y1]; rfl⟩
  case round =>
    obtain ⟨i, rfl, hi, rfl⟩ := hrel
    by_cases hend : i = C
    · subst hend
      have eG : great a b0 i = G := by rw [HG.out, HB0.out]
      rw [eG]
      obtain ⟨GI, hGI⟩ : ∃ GI : Int, GI = (G : Int) := ⟨_, rfl⟩
      rw [← hGI]
      have HGI := hid hGI
      have hg0 : 0 ≤ GI := by omega
      by_cases hbig : (1152921504606846976 : Int) ≤ GI
      · have HZ := hid (show walRead s F i N = ([], 0, 180) by rw [HE.out, if_pos (by omega)])
        have q : decide ((1152921504606846976 : Int) ≤ GI) = true := by simpa using hbig
        have HO := hid (World.ownsRow_nil w3 w2.heap.size 9 1)
        clear hGI eG
        go_wp2_with fail
        go_ret3
        rw [HZ.out]
        exact ⟨_, rfl, HO.out, HF3.out⟩
      · have HZ := hid (show walRead s F i N = (recs a N, (G : Int) + 1, 0) by rw [HE.out, if_neg (by omega)])
        have q : decide ((1152921504606846976 : Int) ≤ GI) = false := by simpa using hbig
        have hgn : GI < 1152921504606846976 := by omega
        have z1 : IntKind.i64.wrap GI = GI := by rw [IntKind.wrap_i64]; omega
        obtain ⟨NI, hNI⟩ : ∃ NI : Int, NI = (N : Int) := ⟨_, rfl⟩
        have hNI2 : 1 ≤ NI := by omega
        have hNI3 : NI ≤ 1152921504606846976 := by have := HNB.out; omega
        have HNI := hid hNI
        have hbf : Below w2.heap.size w2 (w3.alloc (.cells #[] 9)) := (HF3.out.toBelow (Nat.le_refl _) (fun i f => f.elim)).alloc HF3.out.size _
        obtain ⟨i0, hi0, hz0, hz1, hz2⟩ := info_parts (show (Tryz.prog.info? 9).map (fun i => (i.zero, i.size, i.bytes)) = some (some (.string (bs [])), 1, 16) by kernel_rfl)
        have HBF := hid hbf
        have HO0 := hid (World.ownsRow_made (base := w2.heap.size) (e := 9) (size := 1) w3 #[] 0 HF3.out.size (Nat.zero_le _) (by simp))
        have HGL2 := hid (show great a (N - 1) i < 1152921504606846976 by rw [← HG.out]; omega)
        clear hGI eG hbf hbig
        rw [← hNI]
        clear hNI
        go_wp2_with fail
        go_loopw [17, 12] (fun v v2 wr => ∃ (L : List (List UInt8)) (t : List UInt8) (p cap k0 : Nat), v = .slice (some ⟨p, 0, none⟩) L.length cap ∧ v2 = .string (bs t) ∧ L.length ≤ k0 ∧ k0 ≤ i ∧ Hid (t = a.drop (64 * k0)) ∧ NI + L.length ≤ 1152921504606846976 ∧
          Hid (Texts wr w2.heap.size (.slice (some ⟨p, 0, none⟩) L.length cap) L) ∧ Hid (recs a N = L ++ recs t (N + L.length)) ∧ Hid (Below w2.heap.size w2 wr)) (fun _ v _ => strLen v)
        case atStart => exact ⟨[], a, w3.heap.size, 0, 0, rfl, rfl, Nat.le_refl _, by omega, hid (by simp), by simp; omega, hid HO0.out, hid (by simp), HBF⟩
        case round =>
          obtain ⟨L, t, p, cap, k0, rfl, rfl, hLk, hk0, HTD, hNL, HT, HRE, HW⟩ := hrel
          have hL4 : L.length ≤ 4096 := by omega
          have htl : t.length ≤ 262144 := by rw [HTD.out, List.length_drop]; omega
          have e1 : ((N + L.length : Nat) : Int) = NI + (L.length : Int) := by have := HNI.out; omega
          have HWH := hid (stands_c wr t (N + L.length) htl (by omega) (by omega))
          rw [e1] at HWH
          have HIN := hid e1
          clear e1
          cases hah : ahead t (N + L.length) with
          | none =>
            rw [hah] at HWH
            have HR0 := hid (show recs a N = L by rw [HRE.out, recs_none hah, List.append_nil])
            clear hah
            go_wp2_with fail
            refine HWH.out.mono ?_
            rintro e w4 ⟨rfl, hf4⟩
            have HF4 := hid hf4
            clear hf4
            go_wp2_with fail
            go_ret3
            rw [HZ.out]
            refine ⟨_, by rw [← HGI.out]; rfl, ?_, (below_fr HW.out (Nat.le_refl _)).trans HF4.out (fun _ _ f => f)⟩
            rw [HR0.out]
            exact HT.out.stay HF4.out
          | some r =>
            obtain ⟨_, _, r1, _, r5⟩ := ahead_some hah
            rw [hah] at HWH
            have HR0 := hid (recs_some hah)
            have hNL2 : NI + L.length < 1152921504606846976 := by
              have hah2 := hah
              rw [HTD.out] at hah2
              obtain ⟨s1, s2, s3⟩ := ahead_stamp hah2 (by have := HIN.out; omega)
              have s4 := stamp_le a (N - 1) i k0 (by omega) s2
              have := HGL2.out
              have := HIN.out
              omega
            obtain ⟨m, hm⟩ : ∃ m, m = many r.length := ⟨_, rfl⟩
            have hm1 : 1 ≤ m := hm ▸ many_pos _
            rw [← hm] at r5
            have HWH2 := hid (show Calls Tryz.prog 69 #[.string (bs t), .int .i64 (NI + (L.length : Int))] wr fun e w' => e = .returned (.tuple #[.string (bs r), .bool true]) ∧ Fr (fun _ => False) wr w' from HWH.out)
            have HMR := hid (fun W : World => show Calls Tryz.prog 39 #[.string (bs r)] W fun e w' => e = .returned (.int .i64 (m : Int)) ∧ W = w' from hm ▸ many_r W r (by omega))
            have HM := hid hm
            have hm3 : m ≤ 100000 := by omega
            clear hah hm HWH
            go_wp2_with fail
            refine HWH2.out.mono ?_
            rintro e w4 ⟨rfl, hf4⟩
            have hs5 := fun W : World => slice_from (P := Tryz.prog) 9 Tryz.underlying9 W t (64 * (m : Int)) (by omega) (by omega)
            obtain ⟨T2, hT2⟩ : ∃ T2, T2 = t.drop (64 * (m : Int)).toNat := ⟨_, rfl⟩
            rw [← hT2] at hs5
            have hT4 : Texts w4 w2.heap.size (.slice (some ⟨p, 0, none⟩) L.length cap) L := HT.out.stay hf4
            have hb4 : w2.heap.size ≤ w4.heap.size := Nat.le_trans HW.out.size hf4.size
            have hnew := (MapKept.heap_alloc w4 (.cells #[.string (bs r)] 9)).1
            obtain ⟨v', w5, hrun, hown2, hgr2, _⟩ := run_append_own (P := Tryz.prog) (w4.alloc (.cells #[.string (bs r)] 9)) w2.heap.size 65 65 9 i0 (.string (bs [])) 1 16 Tryz.underlying65 hi0 hz0 hz1 hz2 rfl (by decide)
              (.slice (some ⟨p, 0, none⟩) L.length cap) L.length (strs' L) (World.ownsRow.alloc hT4 _) ⟨w4.heap.size, 0, none⟩ 1 1 [.string (bs r)] rfl (by
                intro j u hj
                have hj0 : j = 0 := by have := (List.getElem?_eq_some_iff.1 hj).1; simpa using this
                subst hj0
                simp at hj
                subst hj
                have e1 : (⟨w4.heap.size, 0, none⟩ : Addr).add 0 = ⟨w4.heap.size, 0, none⟩ := by unfold Addr.add; split <;> simp_all
                rw [e1]
                exact cell_at hnew 0) (by intro u hu; simp at hu; subst hu; rfl) (by unfold maxLen; omega) (by omega) (by simp; omega)
            obtain ⟨g', cap', rfl⟩ := Joins.ownsRow_form hown2 (by omega)
            have hw4 : Below w2.heap.size w2 w4 := HW.out.trans (hf4.toBelow HW.out.size (fun i f => f.elim))
            have HW5 := hid ((hw4.alloc hb4 (.cells #[.string (bs r)] 9)).grown hgr2 (by simp; omega) (fun b hb => by
              rcases hT4.2 with ⟨h0, _⟩ | ⟨b', cap2, cur, h0, hb1, _⟩
              · rw [h0] at hb; simp [Value.ownBlock] at hb
              · rw [h0] at hb; simp [Value.ownBlock] at hb; omega))
            have HO5 := hid hown2
            have HT2 := hid hT2
            have HRUN := hid hrun
            have HTL := hid r5
            clear hT2 hf4 hT4 hb4 hnew hown2 hgr2 hw4 hrun
            go_wp2_with (first
              | (go_at_call 39; refine (HMR.out _).mono ?_; rintro e w' ⟨rfl, rfl⟩)
              | (at_builtin; refine Lib.wpList_append_run _ rfl _ _ _ _ rfl _ _ rfl rfl _ _ HRUN.out ?_))
            have e2 : T2.length = t.length - 64 * m := by rw [HT2.out, List.length_drop]; omega
            have z2 : ∀ l : List UInt8, (bs l).size = l.length := fun l => by simp [bs, ByteArray.size]
            have fin : ∃ (L' : List (List UInt8)) (t' : List UInt8) (p' cap2 k1 : Nat), Value.slice (some ⟨g', 0, none⟩) (L.length + 1) cap' = .slice (some ⟨p', 0, none⟩) L'.length cap2 ∧ Value.string (bs T2) = .string (bs t') ∧ L'.length ≤ k1 ∧ k1 ≤ i ∧ Hid (t' = a.drop (64 * k1)) ∧ NI + L'.length ≤ 1152921504606846976 ∧
                Hid (Texts w5 w2.heap.size (.slice (some ⟨p', 0, none⟩) L'.length cap2) L') ∧ Hid (recs a N = L' ++ recs t' (N + L'.length)) ∧ Hid (Below w2.heap.size w2 w5) := by
              have htl2 : t.length = 64 * i - 64 * k0 := by rw [HTD.out, List.length_drop, hal]
              refine ⟨L ++ [r], T2, g', cap', k0 + m, by simp, rfl, by simp; omega, by omega, hid ?_, by simp; omega, hid ?_, hid ?_, HW5⟩
              · rw [HT2.out, HTD.out, List.drop_drop]
                congr 1
                omega
              · have h7 := HO5.out
                unfold Texts
                simp only [strs', List.map_append, List.map_cons, List.map_nil, List.length_append, List.length_cons, List.length_nil]
                exact h7
              · rw [HRE.out, HR0.out, HT2.out, ← HM.out, show (64 * (m : Int)).toNat = 64 * m by omega]
                simp [Nat.add_assoc]
            refine ⟨fin, ?_⟩
            unfold strLen
            simp only
            rw [z2, z2, e2]
            omega
    · have hi' : i < C := by omega
      obtain ⟨S, hS⟩ : ∃ S, S = piece a i := ⟨_, rfl⟩
      have hSl : S.length = 64 := by rw [hS]; exact HMK.out i hi'
      have hs6 := slice_bs (P := Tryz.prog) 9 Tryz.underlying9 w3 a (64 * i) (64 * i + 64) (by omega) (by omega) (64 * (i : Int)) (64 * (i : Int) + 64) (by omega) (by omega)
      rw [show (a.drop (64 * i)).take (64 * i + 64 - 64 * i) = S by rw [hS]; simp [piece]] at hs6
      have hs7 := slice_bs (P := Tryz.prog) 9 Tryz.underlying9 w3 S 14 16 (by omega) (by omega) 14 16 rfl rfl
      have hs8 := slice_to (P := Tryz.prog) 9 Tryz.underlying9 w3 S 8 (by omega) (by omega)
      obtain ⟨M, hM⟩ : ∃ M, M = (S.drop 14).take (16 - 14) := ⟨_, rfl⟩
      rw [← hM] at hs7
      obtain ⟨V, hV⟩ : ∃ V, V = S.take (8 : Int).toNat := ⟨_, rfl⟩
      rw [← hV] at hs8
      obtain ⟨g1, hg1⟩ : ∃ g1, g1 = great a b0 i := ⟨_, rfl⟩
      have hg1l : g1 < 18446744073709551616 := hg1 ▸ HGG.out i
      obtain ⟨v2, hv2⟩ : ∃ v2, v2 = stamp a i := ⟨_, rfl⟩
      have HSV := hid (show Calls Tryz.prog 68 #[.string (bs V)] w3 fun e w' => e = .returned (.int .u64 (v2 : Int)) ∧ w3 = w' from by
        refine (value_c w3 V (by rw [hV, List.length_take]; exact Nat.min_le_left _ _)).mono ?_
        rintro e w' ⟨rfl, rfl⟩
        exact ⟨by rw [hv2, hV, hS]; rfl, rfl⟩)
      obtain ⟨z, hz⟩ : ∃ z, z = max g1 v2 := ⟨_, rfl⟩
      have hmax : ∀ w, (Builtin.max_ #[89, 89] 89 #[.int .u64 (g1 : Int), .int .u64 (v2 : Int)]).run Tryz.prog w = .ok (.int .u64 (z : Int)) w := fun w => max_u64 _ _ g1 v2 z hz w
      rw [← hg1]
      by_cases hmk : M = [82, 87]
      · have HN := hid (show great a b0 (i + 1) = z by
          rw [great, if_pos (show marked a i by unfold marked; rw [← hS]; rw [hM] at hmk; exact hmk), ← hg1, ← hv2, hz])
        have q : (M == [82, 87]) = true := by simpa using hmk
        clear hS hM hV hg1 hv2 hz hmk hend
        go_wp2_with (go_at_call 68; refine HSV.out.mono ?_; rintro e w' ⟨rfl, rfl⟩)
        refine ⟨⟨i + 1, by go_num, by omega, by rw [HN.out]⟩, by simp [intOf]; omega⟩
      · have HN := hid (show great a b0 (i + 1) = g1 by
          rw [great, if_neg (show ¬ marked a i by unfold marked; rw [← hS]; rw [hM] at hmk; exact hmk), ← hg1])
        have q : (M == [82, 87]) = false := by simpa using hmk
        clear hS hM hV hg1 hv2 hz hmk hend
        go_wp2_with (go_at_call 68; refine HSV.out.mono ?_; rintro e w' ⟨rfl, rfl⟩)
        refine ⟨⟨i + 1, by go_num, by omega, by rw [HN.out]⟩, by simp [intOf]; omega⟩

theorem vread_c (w : World) (g b1 b2 : Nat) (s : St) (h : RA w g b1 b2 s) (hs : s.Ok) (f c n : Int) (hf : -9223372036854775808 ≤ f) (hf2 : f ≤ 9223372036854775807) : VReadC w g s f c n := by
  by_cases he : chk s f c n = 0
  · exact vread_go w g b1 b2 s h hs f c n he
  · exact vread_bad w g b1 b2 s h hs f c n hf hf2 he

end Go.Proofs.YthmnchemfigneaaGreat.D
