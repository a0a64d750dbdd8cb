/-
  Read. No condition beyond the disk's own.
-/
import Derived.Test.YthmnchemfigneaaGreatWP
import Derived.Test.YthmnchemfigneaaGreatW6
namespace Go.Proofs.YthmnchemfigneaaGreat.D
open Go.RowKit Go.Maps Go.Shelf
set_option linter.unusedVariables false
set_option linter.unusedSimpArgs false

def strs' (L : List (List UInt8)) : List Value := L.map (fun l => Value.string (bs l))
/-- A slice of texts that a call owns. -/
def Texts (w : World) (B : Nat) (v : Value) (L : List (List UInt8)) : Prop := w.ownsRow B 9 1 v L.length (strs' L)

theorem Texts.stay {w w' : World} {B : Nat} {v : Value} {L : List (List UInt8)} (h : Texts w B v L) (hf : Fr (fun _ => False) w w') : Texts w' B v L := by
  have hg : w.grownBy w' none := ⟨hf.os, hf.tape, hf.output, hf.size, fun k hk _ => hf.block k hk (fun f => f)⟩
  exact World.ownsRow.kept h hg (by cases hv : v.ownBlock <;> simp)

def strLen : Value → Nat
  | .string b => b.size
  | _ => 0

def WReadC (w : World) (g : Nat) (s : St) (f c n : Int) : Prop :=
  Calls Tryz.prog 34 #[.pointer (some ⟨g, 0, none⟩), .int .i64 f, .int .i64 c, .int .i64 n] w fun e w' => ∃ v, e = .returned (.tuple #[v, .int .i64 (walRead s f c n).2.1, .int .i64 (walRead s f c n).2.2]) ∧
    Texts w' w.heap.size v (walRead s f c n).1 ∧ Fr (fun _ => False) w w'

set_option maxHeartbeats 4000000 in
set_option maxRecDepth 100000 in
theorem wread_bad (w : World) (g bm : Nat) (s : St) (h : At w g bm s) (hs : s.Ok) (f c n : Int) (hf : -9223372036854775808 ≤ f) (hf2 : f ≤ 9223372036854775807) (he : chk s f c n ≠ 0) : WReadC w g s f c n := by
  have HC := hid (check_c w g bm s h hs f c n hf hf2)
  have HE := hid (show walRead s f c n = ([], 0, chk s f c n) by unfold walRead; rw [if_pos he])
  have HO := hid (World.ownsRow_nil w w.heap.size 9 1)
  unfold WReadC
  rw [HE.out]
  clear h hs
  obtain ⟨C, hC⟩ : ∃ C, C = chk s f c n := ⟨_, rfl⟩
  rw [← hC] at HC he ⊢
  have q : (C == 0) = false := by simpa using he
  have q2 : (C != 0) = true := by simpa using he
  clear hC he
  go_enter Tryz.func34, Tryz.ntmps34
  go_wp2_with fail
  refine HC.out.mono ?_
  rintro e w2 ⟨rfl, rfl⟩
  go_wp2_with fail
  go_ret3
  exact ⟨_, rfl, HO.out, Fr.refl _ _⟩

theorem max_u64 {P : Program} (ts : Array TypeId) (t : TypeId) (x y z : Nat) (hz : z = max x y) (w : World) : (Builtin.max_ ts t #[.int .u64 (x : Int), .int .u64 (y : Int)]).run P w = .ok (.int .u64 (z : Int)) w := by
  rw [run_max_int2]
  congr 2
  split <;> omega

set_option maxHeartbeats 8000000 in
set_option maxRecDepth 100000 in
theorem wread_go (w : World) (g bm : Nat) (s : St) (h : At w g bm s) (hs : s.Ok) (f c n : Int) (he : chk s f c n = 0) : WReadC w g s f c n := by
  obtain ⟨hLo, p1, p2, p3, p4, p5⟩ := LSt.begin_ok he
  have hsn := hs.n2
  have HC := hid (check_c w g bm s h hs f c n (by omega) (by omega))
  rw [he] at HC
  obtain ⟨F, rfl⟩ : ∃ F : Nat, f = F := ⟨f.toNat, by omega⟩
  obtain ⟨C, rfl⟩ : ∃ C : Nat, c = C := ⟨c.toNat, by omega⟩
  obtain ⟨N, rfl⟩ : ∃ N : Nat, n = N := ⟨n.toNat, by omega⟩
  have hdd : s.dead = false := by
    unfold chk at he
    split at he
    · cases he
    · cases hd : s.dead with
      | false => rfl
      | true => rw [hd] at he; simp at he
  obtain ⟨a, hae⟩ : ∃ a, a = secs s F C := ⟨_, rfl⟩
  have hrd : s.read F C = (a, 0) := by rw [hae, St.read, if_neg (by simp [hdd]), if_neg (by omega)]; rfl
  have hal : a.length = 64 * C := by rw [hae]; exact secs_length hs (by omega)
  have HRD := hid (fun w : World => fun hA : At w g bm s => show Calls Tryz.prog 58 #[.pointer (some ⟨g, 0, none⟩), .int .i64 (F : Int), .int .i64 (C : Int)] w fun e w' => e = .returned (.tuple #[.string (bs a), .int .i64 0]) ∧ Fr (fun _ => False) w w' by
    have := read_c w g bm s hA hs F C (by omega) (by omega)
    unfold ReadC at this
    rw [hrd] at this
    exact this)
  obtain ⟨G, hG⟩ : ∃ G, G = great a (N - 1) C := ⟨_, rfl⟩
  have HE := hid (show walRead s F C N = if 1152921504606846976 ≤ G then ([], 0, 180) else (recs a N, (G : Int) + 1, 0) by
    unfold walRead; rw [if_neg (by rw [he]; simp), hrd]; simp only [Int.toNat_natCast, ← hG])
  have hG2 : G < 18446744073709551616 := by rw [hG]; exact great_lt a _ (by omega) C
  have HGL := hid hG2
  have HG := hid hG
  have HA := hid h
  have hC4 : C ≤ 4096 := by omega
  have hN1 : 1 ≤ N := by omega
  obtain ⟨b0, hb0⟩ : ∃ b0, b0 = N - 1 := ⟨_, rfl⟩
  have y0 : ((N : Int) - 1) = (b0 : Int) := by omega
  have y1 : IntKind.u64.wrap (b0 : Int) = (b0 : Int) := by rw [IntKind.wrap_u64]; omega
  have HGG := hid (fun i => great_lt a b0 (by omega) i)
  have HB0 := hid hb0
  have HNB := hid (show N ≤ 1152921504606846976 by omega)
  have HMK := hid (fun (i : Nat) (h : i < C) => show (piece a i).length = 64 by simp only [piece, List.length_take, List.length_drop]; omega)
  unfold WReadC
  clear hLo p1 p2 p3 p4 p5 h he hdd hrd hG hG2 hsn hs hae hb0
  go_enter Tryz.func34, Tryz.ntmps34
  go_wp2_with fail
  refine HC.out.mono ?_
  rintro e w2 ⟨rfl, rfl⟩
  go_wp2_with fail
  refine (HRD.out _ HA.out).mono ?_
  rintro e w3 ⟨rfl, hf3⟩
  have HF3 := hid hf3
  clear hf3
  go_wp2_with fail
  go_loop [42, 14] (fun v v2 => ∃ i : Nat, v = .int .i64 i ∧ i ≤ C ∧ v2 = .int .u64 (great a b0 i)) (fun v _ => C - (intOf v).toNat)
  case atStart => exact ⟨0, rfl, by omega, by rw [IntWalk.wrap64_in _ ⟨by omega, by have := HB0.out; have := HNB.out; omega⟩, y1]; rfl⟩
  case round =>
    obtain ⟨i, rfl, hi, rfl⟩ := hrel
    by_cases hend : i = C
    · subst hend
      have eG : great a b0 i = G := by rw [HG.out, HB0.out]
      rw [eG]
      obtain ⟨GI, hGI⟩ : ∃ GI : Int, GI = (G : Int) := ⟨_, rfl⟩
      rw [← hGI]
      have HGI := hid hGI
      have hg0 : 0 ≤ GI := by omega
      by_cases hbig : (1152921504606846976 : Int) ≤ GI
      · have HZ := hid (show walRead s F i N = ([], 0, 180) by rw [HE.out, if_pos (by omega)])
        have q : decide ((1152921504606846976 : Int) ≤ GI) = true := by simpa using hbig
        have HO := hid (World.ownsRow_nil w3 w2.heap.size 9 1)
        clear hGI eG
        go_wp2_with fail
        go_ret3
        rw [HZ.out]
        exact ⟨_, rfl, HO.out, HF3.out⟩
      · have HZ := hid (show walRead s F i N = (recs a N, (G : Int) + 1, 0) by rw [HE.out, if_neg (by omega)])
        have q : decide ((1152921504606846976 : Int) ≤ GI) = false := by simpa using hbig
        have hgn : GI < 1152921504606846976 := by omega
        have z1 : IntKind.i64.wrap GI = GI := by rw [IntKind.wrap_i64]; omega
        obtain ⟨NI, hNI⟩ : ∃ NI : Int, NI = (N : Int) := ⟨_, rfl⟩
        have hNI2 : 1 ≤ NI := by omega
        have hNI3 : NI ≤ 1152921504606846976 := by have := HNB.out; omega
        have HNI := hid hNI
        have hbf : Below w2.heap.size w2 w3 := HF3.out.toBelow (Nat.le_refl _) (fun i f => f.elim)
        obtain ⟨i0, hi0, hz0, hz1, hz2⟩ := info_parts (show (Tryz.prog.info? 9).map (fun i => (i.zero, i.size, i.bytes)) = some (some (.string (bs [])), 1, 16) by kernel_rfl)
        have HBF := hid hbf
        clear hGI eG hbf hbig
        rw [← hNI]
        clear hNI
        go_wp2_with fail
        go_loopw [17, 12] (fun v v2 wr => ∃ (L : List (List UInt8)) (t : List UInt8) (p : Option Addr) (cap : Nat), v = .slice p L.length cap ∧ v2 = .string (bs t) ∧ 64 * L.length + t.length ≤ 64 * i ∧
          Hid (Texts wr w2.heap.size (.slice p L.length cap) L) ∧ Hid (recs a N = L ++ recs t (N + L.length)) ∧ Hid (Below w2.heap.size w2 wr)) (fun _ v _ => strLen v)
        case atStart => exact ⟨[], a, none, 0, rfl, rfl, by simp [hal], hid (World.ownsRow_nil _ _ _ _), hid (by simp), HBF⟩
        case round =>
          obtain ⟨L, t, p, cap, rfl, rfl, hLt, HT, HRE, HW⟩ := hrel
          have hL4 : L.length ≤ 4096 := by omega
          have e1 : ((N + L.length : Nat) : Int) = NI + (L.length : Int) := by have := HNI.out; omega
          have HWH := hid (whole_c wr t (N + L.length) (by omega) (by have := HNB.out; omega))
          rw [e1] at HWH
          have HIN := hid e1
          clear e1
          cases hah : ahead t (N + L.length) with
          | none =>
            rw [hah] at HWH
            have HR0 := hid (show recs a N = L by rw [HRE.out, recs_none hah, List.append_nil])
            clear hah
            go_wp2_with fail
            refine HWH.out.mono ?_
            rintro e w4 ⟨rfl, hf4⟩
            have HF4 := hid hf4
            clear hf4
            go_wp2_with fail
            go_ret3
            rw [HZ.out]
            refine ⟨_, by rw [← HGI.out]; rfl, ?_, (below_fr HW.out (Nat.le_refl _)).trans HF4.out (fun _ _ f => f)⟩
            rw [HR0.out]
            exact HT.out.stay HF4.out
          | some r =>
            obtain ⟨_, _, r1, _, r5⟩ := ahead_some hah
            rw [hah] at HWH
            have HR0 := hid (recs_some hah)
            obtain ⟨m, hm⟩ : ∃ m, m = many r.length := ⟨_, rfl⟩
            have hm1 : 1 ≤ m := hm ▸ many_pos _
            rw [← hm] at r5
            have HWH2 := hid (show Calls Tryz.prog 60 #[.string (bs t), .int .i64 (NI + (L.length : Int))] wr fun e w' => e = .returned (.tuple #[.string (bs r), .int .i64 (m : Int)]) ∧ Fr (fun _ => False) wr w' by
              rw [hm]; exact HWH.out)
            have q : ((m : Int) == 0) = false := by simp; omega
            have HM := hid hm
            clear hah hm HWH
            go_wp2_with fail
            refine HWH2.out.mono ?_
            rintro e w4 ⟨rfl, hf4⟩
            have hs5 := fun W : World => slice_from (P := Tryz.prog) 9 Tryz.underlying9 W t ((m : Int) * 64) (by omega) (by omega)
            obtain ⟨T2, hT2⟩ : ∃ T2, T2 = t.drop ((m : Int) * 64).toNat := ⟨_, rfl⟩
            rw [← hT2] at hs5
            have y2 : IntKind.i64.wrap ((m : Int) * 64) = (m : Int) * 64 := by rw [IntKind.wrap_i64]; omega
            have HF4 := hid hf4
            have hT4 : Texts w4 w2.heap.size (.slice p L.length cap) L := HT.out.stay hf4
            have hb4 : w2.heap.size ≤ w4.heap.size := Nat.le_trans HW.out.size hf4.size
            have hnew := (MapKept.heap_alloc w4 (.cells #[.string (bs r)] 9)).1
            obtain ⟨v', w5, hrun, hown2, hgr2, _⟩ := run_append_own (P := Tryz.prog) ((w4.alloc (.cells #[.string (bs r)] 9)).drew) w2.heap.size 65 65 9 i0 (.string (bs [])) 1 16 Tryz.underlying65 hi0 hz0 hz1 hz2 rfl (by decide)
              (.slice p L.length cap) L.length (strs' L) ((World.ownsRow.alloc hT4 _).drew) ⟨w4.heap.size, 0, none⟩ 1 1 [.string (bs r)] rfl (by
                intro j u hj
                have hj0 : j = 0 := by have := (List.getElem?_eq_some_iff.1 hj).1; simpa using this
                subst hj0
                simp at hj
                subst hj
                have e1 : (⟨w4.heap.size, 0, none⟩ : Addr).add 0 = ⟨w4.heap.size, 0, none⟩ := by unfold Addr.add; split <;> simp_all
                rw [e1]
                exact cell_at hnew 0) (by intro u hu; simp at hu; subst hu; rfl) (by unfold maxLen; omega) (by omega) (by show w2.heap.size ≤ (w4.alloc _).heap.size; simp; omega)
            obtain ⟨g', cap', rfl⟩ := Joins.ownsRow_form hown2 (by omega)
            have hw4 : Below w2.heap.size w2 w4 := HW.out.trans (hf4.toBelow HW.out.size (fun i f => f.elim))
            have HW5 := hid (((hw4.alloc hb4 (.cells #[.string (bs r)] 9)).drew).grown hgr2 (by show w2.heap.size ≤ (w4.alloc _).heap.size; simp; omega) (fun b hb => by
              rcases hT4.2 with ⟨h0, _⟩ | ⟨b', cap2, cur, h0, hb1, _⟩
              · rw [h0] at hb; simp [Value.ownBlock] at hb
              · rw [h0] at hb; simp [Value.ownBlock] at hb; omega))
            have HO5 := hid hown2
            have HT2 := hid hT2
            clear hT2 hf4 hT4 hb4 hnew hown2 hgr2 hw4
            go_wp2_with fail
            go_region_law (refine step_append_run rfl (.tmp 74) (.tmp 76) 65 rfl _ _ _ _ (by simp [Act.eval, Act.put]) (by simp [Act.eval, Act.put]) hrun ?_)
            all_goals
              go_wp2_with fail
              go_roundw
              case measure =>
                have e2 : T2.length = t.length - 64 * m := by rw [HT2.out, List.length_drop]; omega
                have z2 : ∀ l : List UInt8, (bs l).size = l.length := fun l => by simp [bs, ByteArray.size]
                show strLen (.string (bs T2)) < strLen (.string (bs t))
                unfold strLen
                simp only
                rw [z2, z2, e2]
                omega
              case rel =>
                have fin : ∃ (L' : List (List UInt8)) (t' : List UInt8) (p' : Option Addr) (cap2 : Nat), Value.slice (some ⟨g', 0, none⟩) (L.length + 1) cap' = .slice p' L'.length cap2 ∧ Value.string (bs T2) = .string (bs t') ∧ 64 * L'.length + t'.length ≤ 64 * i ∧
                    Hid (Texts w5 w2.heap.size (.slice p' L'.length cap2) L') ∧ Hid (recs a N = L' ++ recs t' (N + L'.length)) ∧ Hid (Below w2.heap.size w2 w5) := by
                  refine ⟨L ++ [r], T2, some ⟨g', 0, none⟩, cap', by simp, rfl, ?_, hid ?_, hid ?_, HW5⟩
                  · rw [HT2.out, List.length_drop, List.length_append]
                    simp only [List.length_cons, List.length_nil]
                    omega
                  · have h7 := HO5.out
                    unfold Texts
                    simp only [strs', List.map_append, List.map_cons, List.map_nil, List.length_append, List.length_cons, List.length_nil]
                    exact h7
                  · rw [HRE.out, HR0.out, HT2.out, ← HM.out, show ((m : Int) * 64).toNat = 64 * m by omega]
                    simp [Nat.add_assoc]
                (repeat apply Exists.intro)
                exact ⟨fin, rfl⟩
    · have hi' : i < C := by omega
      obtain ⟨S, hS⟩ : ∃ S, S = piece a i := ⟨_, rfl⟩
      have hSl : S.length = 64 := by rw [hS]; exact HMK.out i hi'
      have hs6 := slice_bs (P := Tryz.prog) 9 Tryz.underlying9 w3 a (64 * i) (64 * i + 64) (by omega) (by omega) ((i : Int) * 64) ((i : Int) * 64 + 64) (by omega) (by omega)
      rw [show (a.drop (64 * i)).take (64 * i + 64 - 64 * i) = S by rw [hS]; simp [piece]] at hs6
      have hs7 := slice_bs (P := Tryz.prog) 9 Tryz.underlying9 w3 S 14 16 (by omega) (by omega) 14 16 rfl rfl
      have hs8 := slice_to (P := Tryz.prog) 9 Tryz.underlying9 w3 S 8 (by omega) (by omega)
      obtain ⟨M, hM⟩ : ∃ M, M = (S.drop 14).take (16 - 14) := ⟨_, rfl⟩
      rw [← hM] at hs7
      obtain ⟨V, hV⟩ : ∃ V, V = S.take (8 : Int).toNat := ⟨_, rfl⟩
      rw [← hV] at hs8
      obtain ⟨g1, hg1⟩ : ∃ g1, g1 = great a b0 i := ⟨_, rfl⟩
      have hg1l : g1 < 18446744073709551616 := hg1 ▸ HGG.out i
      obtain ⟨v2, hv2⟩ : ∃ v2, v2 = stamp a i := ⟨_, rfl⟩
      have HSV := hid (show Calls Tryz.prog 59 #[.string (bs V)] w3 fun e w' => e = .returned (.int .u64 (v2 : Int)) ∧ w3 = w' from by
        refine (small_c w3 V (by rw [hV, List.length_take]; exact Nat.min_le_left _ _)).mono ?_
        rintro e w' ⟨rfl, rfl⟩
        exact ⟨by rw [hv2, hV, hS]; rfl, rfl⟩)
      obtain ⟨z, hz⟩ : ∃ z, z = max g1 v2 := ⟨_, rfl⟩
      have hmax : ∀ w, (Builtin.max_ #[89, 89] 89 #[.int .u64 (g1 : Int), .int .u64 (v2 : Int)]).run Tryz.prog w = .ok (.int .u64 (z : Int)) w := fun w => max_u64 _ _ g1 v2 z hz w
      rw [← hg1]
      by_cases hmk : M = [82, 87]
      · have HN := hid (show great a b0 (i + 1) = z by
          rw [great, if_pos (show marked a i by unfold marked; rw [← hS]; rw [hM] at hmk; exact hmk), ← hg1, ← hv2, hz])
        have q : (M == [82, 87]) = true := by simpa using hmk
        clear hS hM hV hg1 hv2 hz hmk hend
        go_wp2_with (go_at_call 59; refine HSV.out.mono ?_; rintro e w' ⟨rfl, rfl⟩)
        refine ⟨⟨i + 1, by go_num, by omega, by rw [HN.out]⟩, by simp [intOf]; omega⟩
      · have HN := hid (show great a b0 (i + 1) = g1 by
          rw [great, if_neg (show ¬ marked a i by unfold marked; rw [← hS]; rw [hM] at hmk; exact hmk), ← hg1])
        have q : (M == [82, 87]) = false := by simpa using hmk
        clear hS hM hV hg1 hv2 hz hmk hend
        go_wp2_with (go_at_call 59; refine HSV.out.mono ?_; rintro e w' ⟨rfl, rfl⟩)
        refine ⟨⟨i + 1, by go_num, by omega, by rw [HN.out]⟩, by simp [intOf]; omega⟩

theorem wread_c (w : World) (g bm : Nat) (s : St) (h : At w g bm s) (hs : s.Ok) (f c n : Int) (hf : -9223372036854775808 ≤ f) (hf2 : f ≤ 9223372036854775807) : WReadC w g s f c n := by
  by_cases he : chk s f c n = 0
  · exact wread_go w g bm s h hs f c n he
  · exact wread_bad w g bm s h hs f c n hf hf2 he

end Go.Proofs.YthmnchemfigneaaGreat.D
