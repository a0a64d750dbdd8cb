/-
  The document's pager: Live. No condition beyond the sizes that are named.
-/
import Derived.Test.YtjkhcfdflcndkaaGreatKO22
namespace Go.Proofs.YtjkhcfdflcndkaaGreat.D
open Go.RowKit Go.Maps Go.Shelf
set_option linter.unusedVariables false
set_option linter.unusedSimpArgs false

/-- The document's pager has turned, or not; nothing else did. -/
def RPT (w w' : World) (q m ub : Nat) (P : PSt) : Prop := ∃ ub', RPAt w' q m ub' P ∧ (ub' = ub ∨ w.heap.size ≤ ub') ∧ Fr (· = q) w w'
theorem RPPost.t {w w' : World} {q m : Nat} {P : PSt} (ub : Nat) (h : RPPost w w' q m P) : RPT w w' q m ub P := by
  obtain ⟨u, h1, h2, h3⟩ := h
  exact ⟨u, h1, Or.inr h2, h3⟩
theorem RPT.self {w w' : World} {q m ub : Nat} {P : PSt} (h : RPAt w q m ub P) (hf : Fr (fun _ => False) w w') : RPT w w' q m ub P := ⟨ub, h.stay hf, Or.inl rfl, fr_no hf⟩
theorem RPPost.pre {w w1 w' : World} {q m : Nat} {P : PSt} (hf : Fr (fun _ => False) w w1) (h : RPPost w1 w' q m P) : RPPost w w' q m P := by
  obtain ⟨u, h1, h2, h3⟩ := h
  exact ⟨u, h1, Nat.le_trans hf.size h2, (fr_no hf).trans h3 (fun _ _ e => e)⟩

def liveTo (P : PSt) (l : List Int) (i j : Nat) : Int := useOf P j / 2 * 2 + (if (l.take i).contains (j : Int) then 1 else 0)
theorem all_take (c : Int → Bool) (l : List Int) (h : ∀ b, b < l.length → c (l.getD b 0) = true) : l.all c = true := by
  rw [List.all_eq_true]
  intro x hx
  obtain ⟨b, hb⟩ := List.mem_iff_getElem?.1 hx
  have hbi := (List.getElem?_eq_some_iff.1 hb).1
  have := h b hbi
  rwa [List.getD_eq_getElem?_getD, hb] at this
theorem all_not (c : Int → Bool) (l : List Int) (i : Nat) (hi : i < l.length) (h : c (l.getD i 0) = false) : l.all c = false := by
  rw [List.all_eq_false]
  refine ⟨l.getD i 0, ?_, fun e => by rw [h] at e; cases e⟩
  rw [List.getD_eq_getElem?_getD, List.getElem?_eq_getElem hi]
  exact List.getElem_mem hi
theorem not_in_take (l : List Int) (i : Nat) (hi : i < l.length) (hn : l.Nodup) : (l.take i).contains (l.getD i 0) = false := by
  have h2 := (nodup_snoc l i hi).1 (hn.sublist (List.take_sublist _ _))
  rw [Bool.eq_false_iff]
  intro h
  have h : l.getD i 0 ∈ l.take i := by simpa using h
  obtain ⟨b, hb⟩ := List.mem_iff_getElem?.1 h
  have hbi : b < i := by have := (List.getElem?_eq_some_iff.1 hb).1; simp at this; omega
  rw [List.getElem?_take_of_lt hbi] at hb
  refine h2.2 b hbi ?_
  rw [List.getD_eq_getElem?_getD, hb]
  rfl

set_option maxHeartbeats 8000000 in
set_option maxRecDepth 100000 in
theorem rplive_c (w : World) (q m ub : Nat) (P : PSt) (h : RPAt w q m ub P) (hp : P.pages ≤ 4096) (v : Value) (l : List Int) (hv : IntsV w v l) :
    Calls Tryz.prog 24 #[.pointer (some ⟨q, 0, none⟩), v] w fun e w' => e = .returned (.int .i64 (P.setLive l).2) ∧ RPT w w' q m ub (P.setLive l).1 := by
  have HP := hid h
  have HV := hid hv
  obtain ⟨a, cap, rfl, hlen, _⟩ := hv
  have HUN := hid (runlike_c w _ l HV.out)
  obtain ⟨⟨cap6, h1⟩, hU⟩ := h
  have HU := hid hU
  have H1 := hid h1
  have HIS := hid (fun k => rpis_c w q m ub P HP.out k)
  obtain ⟨n, hn⟩ : ∃ n, n = l.length := ⟨_, rfl⟩
  rw [← hn] at hlen HV HUN ⊢
  have HN := hid hn
  obtain ⟨pg, hpg⟩ : ∃ pg, pg = P.pages := ⟨_, rfl⟩
  rw [← hpg] at hp
  have HPG := hid hpg
  clear h1 hn hU hpg
  go_enter Tryz.func24, Tryz.ntmps24
  go_wp2_with fail
  go_loop [5] (fun v5 => ∃ i : Nat, v5 = .int .i64 i ∧ i ≤ n ∧ Hid (∀ b, b < i → P.is (l.getD b 0) = true)) (fun v => n - (intOf v).toNat)
  case atStart => exact ⟨0, rfl, by omega, hid (by omega)⟩
  case round =>
    obtain ⟨i, rfl, hi, HD⟩ := hrel
    by_cases hend : i = n
    · subst hend
      have HALL := hid (all_take P.is l (fun b hb => HD.out b (by have := HN.out; omega)))
      clear HIS
      go_wp2_with fail
      refine HUN.out.mono ?_
      rintro e w2 ⟨rfl, hf2⟩
      have HF2 := hid hf2
      clear hf2
      obtain ⟨R, hR⟩ : ∃ R, R = decide l.Nodup := ⟨_, rfl⟩
      rw [← hR]
      have HR := hid hR
      clear hR HUN
      cases R with
      | false =>
        have HZ := hid (show P.setLive l = (P, 191) by
          unfold PSt.setLive setOk
          rw [← HR.out, Bool.and_false]
          rfl)
        go_wp2_with fail
        go_ret
        rw [HZ.out]
        exact ⟨rfl, RPT.self HP.out HF2.out⟩
      | true =>
        have HND := hid (show l.Nodup from of_decide_eq_true HR.out.symm)
        have HZ := hid (show P.setLive l = ({ P with live := fun i => l.contains i }, 0) by
          unfold PSt.setLive setOk
          rw [← HR.out, HALL.out]
          rfl)
        have H2 := hid (HF2.out.at H1.out (fun f => f))
        have k2 : w2.cell? ⟨q, 2, none⟩ = some (.int .i64 pg) := by rw [cell_at H2.out 2, HPG.out]; rfl
        have hmk := mk_ints pg hp w2
        have HU0 := hid (zeros_use w2 pg)
        have HF0 := hid ((Fr.refl (fun _ => False) w2).alloc (.cells (Array.replicate pg (.int .i64 0)) 3))
        have HU2 := hid (HU.out.keep HF2.out (fun f => f))
        go_wp2_with fail
        go_loopw [7] (fun v7 wr => ∃ k : Nat, v7 = .int .i64 k ∧ k ≤ pg ∧ Hid (UseAt wr w2.heap.size pg (fun j => if j < k then liveTo P l 0 j else 0)) ∧ Hid (Fr (fun _ => False) w2 wr)) (fun v _ => pg - (intOf v).toNat)
        case atStart => exact ⟨0, rfl, by omega, hid (HU0.out.congr (fun i hi => by simp)), HF0⟩
        case round =>
          obtain ⟨k, rfl, hk, HW, HF⟩ := hrel
          have c2 : wr.cell? ⟨q, 2, none⟩ = some (.int .i64 pg) := by rw [cell_at (HF.out.at H2.out (fun f => f)) 2, HPG.out]; rfl
          by_cases hend : k = pg
          · have HW0 := hid (show UseAt wr w2.heap.size pg (liveTo P l 0) from HW.out.congr (fun j hj => if_pos (by omega)))
            subst hend
            clear HW k2 hmk
            go_wp2_with fail
            go_loopw [8] (fun v8 ws => ∃ x : Nat, v8 = .int .i64 x ∧ x ≤ i ∧ Hid (UseAt ws w2.heap.size k (liveTo P l x)) ∧ Hid (Fr (fun _ => False) w2 ws)) (fun v _ => i - (intOf v).toNat)
            case atStart => exact ⟨0, rfl, by omega, HW0, HF⟩
            case round =>
              obtain ⟨x, rfl, hx, HX, HG⟩ := hrel
              have HQ := hid (HG.out.at H2.out (fun f => f))
              by_cases hend : x = i
              · have z6 : wr.frozen? ⟨q, 6, none⟩ = false := frozen_at HQ.out 6
                have c6 : wr.cell? ⟨q, 6, none⟩ = some (.slice (some ⟨ub, 0, none⟩) P.pages cap6) := cell_at HQ.out 6
                subst hend
                clear c2
                go_wp2_with fail
                go_ret
                rw [HZ.out]
                refine ⟨rfl, RPPost.t _ (RPPost.pre HF2.out ?_)⟩
                rw [HPG.out]
                refine RPAt.new H2.out (Nat.le_refl _) ((HPG.out ▸ HX.out).congr (fun j hj => ?_)) HG.out rfl rfl rfl rfl rfl rfl
                unfold liveTo
                rw [HN.out, List.take_length]
                show useOf P j / 2 * 2 + (if l.contains (j : Int) = true then 1 else 0) = (if l.contains (j : Int) = true then 1 else 0) + (if P.taken (j : Int) = true then 2 else 0)
                unfold useOf
                cases P.live j <;> cases P.taken j <;> simp <;> omega
              · have hx' : x < i := by omega
                obtain ⟨b, o, rfl, hcell⟩ := HV.out.some (by omega)
                have hxl : x < l.length := by have := HN.out; omega
                have hisx := HD.out x hx'
                obtain ⟨y, hy⟩ : ∃ y, y = l.getD x 0 := ⟨_, rfl⟩
                rw [← hy] at hisx
                have hyr : 0 ≤ y ∧ y < P.pages := by unfold PSt.is at hisx; simpa using hisx
                obtain ⟨J, rfl⟩ : ∃ J : Nat, y = J := ⟨y.toNat, by omega⟩
                have hJ : J < k := by have := HPG.out; omega
                have cx := cells_stay2 (HF2.out.trans HG.out (fun _ _ f => f)) (hcell x hx')
                rw [← hy] at cx
                have cj := HX.out.cell hJ
                have zj := HX.out.frozen J
                have HNI := hid (hy ▸ not_in_take l x hxl HND.out)
                have hlt : liveTo P l x J = useOf P J / 2 * 2 := by unfold liveTo; rw [HNI.out]; simp
                rw [hlt] at cj
                have HNX := hid (fun u (e : u = liveTo P l (x + 1) J) => show UseAt (wr.setCell ⟨w2.heap.size, J, none⟩ (.int .i64 u)) w2.heap.size k (liveTo P l (x + 1)) from (HX.out.set hJ u).congr (fun j hj => by
                  by_cases e2 : j = J
                  · subst e2; rw [if_pos rfl, e]
                  · rw [if_neg e2]
                    unfold liveTo
                    rw [take_snoc l x hxl, ← hy]
                    have e3 : ¬ (j : Int) = (J : Int) := by omega
                    simp [e3]))
                have HGX := hid (fun u => (HG.out.setCell ⟨w2.heap.size, J, none⟩ (fun h => by simp at h) (.int .i64 u)))
                have HLV := hid (show liveTo P l (x + 1) J = useOf P J / 2 * 2 + 1 by
                  unfold liveTo
                  rw [take_snoc l x hxl, ← hy]
                  simp)
                have hvv := useOf_vals P J
                obtain ⟨u, hu⟩ : ∃ u, u = useOf P J := ⟨_, rfl⟩
                rw [← hu] at cj hvv HLV
                clear hu hlt hy hcell hend hisx HNI
                rcases hvv with rfl | rfl | rfl | rfl <;>
                · go_wp2_with fail
                  exact ⟨⟨x + 1, by go_num, by omega, hid (HNX.out _ (by rw [HLV.out]; rfl)), hid (HGX.out _)⟩, by simp [intOf]; omega⟩
          · have hk' : k < pg := by omega
            have hin : k < P.pages := by have := HPG.out; omega
            have c6 : wr.cell? ⟨q, 6, none⟩ = some (.slice (some ⟨ub, 0, none⟩) pg cap6) := by rw [cell_at (HF.out.at H2.out (fun f => f)) 6, HPG.out]; rfl
            have cu := (HU2.out.keep HF.out (fun f => f)).cell (i := k) hin
            have cb := HW.out.cell (i := k) hk'
            have zb := HW.out.frozen k
            rw [if_neg (by omega)] at cb
            have HN2 := hid (fun x (e : x = liveTo P l 0 k) => show UseAt (wr.setCell ⟨w2.heap.size, k, none⟩ (.int .i64 x)) w2.heap.size pg (fun j => if j < k + 1 then liveTo P l 0 j else 0) from (HW.out.set hk' x).congr (fun j hj => by
              by_cases a : j = k
              · subst a; simp [e]
              · by_cases b : j < k
                · simp [a, b, show j < k + 1 by omega]
                · simp [a, b, show ¬ j < k + 1 by omega]))
            have HFS := hid (fun x => (HF.out.setCell ⟨w2.heap.size, k, none⟩ (fun h => by simp at h) (.int .i64 x)))
            have hvv := useOf_vals P k
            have HDD := hid (show liveTo P l 0 k = useOf P k / 2 * 2 by unfold liveTo; simp)
            obtain ⟨u, hu⟩ : ∃ u, u = useOf P k := ⟨_, rfl⟩
            rw [← hu] at cu hvv HDD
            clear hu hend k2
            rcases hvv with rfl | rfl | rfl | rfl <;>
            · go_wp2_with fail
              exact ⟨⟨k + 1, by go_num, by omega, hid (HN2.out _ (by rw [HDD.out]; rfl)), hid (HFS.out _)⟩, by simp [intOf]; omega⟩
    · have hi' : i < n := by omega
      obtain ⟨b, o, rfl, hcell⟩ := HV.out.some (by omega)
      have ci := hcell i hi'
      obtain ⟨y, hy⟩ : ∃ y, y = l.getD i 0 := ⟨_, rfl⟩
      rw [← hy] at ci
      have HI := hid (HIS.out y)
      have HY := hid hy
      clear hcell hend hy HUN HIS
      cases hb : P.is y with
      | true =>
        rw [hb] at HI
        have HD2 := hid (show ∀ b, b < i + 1 → P.is (l.getD b 0) = true by
          intro b hb'
          by_cases e : b = i
          · rw [e, ← HY.out]; exact hb
          · exact HD.out b (by omega))
        clear hb
        go_wp2_with fail
        refine HI.out.mono ?_
        rintro e w2 ⟨rfl, rfl⟩
        go_wp2_with fail
        exact ⟨⟨i + 1, by go_num, by omega, HD2⟩, by simp [intOf]; omega⟩
      | false =>
        rw [hb] at HI
        have HZ := hid (show P.setLive l = (P, 191) by
          unfold PSt.setLive setOk
          rw [all_not P.is l i (by have := HN.out; omega) (by rw [← HY.out]; exact hb)]
          rfl)
        clear hb
        go_wp2_with fail
        refine HI.out.mono ?_
        rintro e w2 ⟨rfl, rfl⟩
        go_wp2_with fail
        go_ret
        rw [HZ.out]
        exact ⟨rfl, RPT.self HP.out (Fr.refl _ _)⟩

end Go.Proofs.YtjkhcfdflcndkaaGreat.D
