/-
  The laws KeysOrder and Same, plain: what the printed functions come to is true. Condition: the lists' lengths.
-/
import Derived.Test.YtpimfioeeipnhaaDoorSpecC
import Derived.Test.YtpimfioeeipnhaaDoorKx30
namespace Go.Proofs.YtpimfioeeipnhaaDoor.Pl
open Go.Proofs.YtpimfioeeipnhaaDoor.Hand Go.Proofs.YtpimfioeeipnhaaDoor.K Go.Lib Go.RowKit Go.Proofs.YtpimfioeeipnhaaDoorW.PrintWords Go.Proofs.YtpimfioeeipnhaaDoorW.PrintMore
set_option linter.unusedVariables false
set_option linter.unusedSimpArgs false

theorem fixed_ev2 : Ev (fun k => rhizomelaw03_fixed.f k) true := Ev.of rhizomelaw03_fixed.mono fixed_at

theorem same_loop (a b : List Part) (hab : a.length = b.length) (hl : a.length ≤ 4611686018427387904) : ∀ (d i : Nat), i + d = a.length →
    ∃ r : Bool, Ev (fun k => rhizomeref03_Same.l0 k a b (i : Int)) r ∧ (r = true ↔ a.drop i = b.drop i)
  | 0, i, h => by
    refine ⟨true, Ev.step (f := fun _ => some true) (fun k => by simp only [rhizomeref03_Same.l0]; rw [if_neg (by omega)]) (Ev.now _), ?_⟩
    rw [List.drop_eq_nil_of_le (by omega), List.drop_eq_nil_of_le (by omega)]
    simp
  | d + 1, i, h => by
    have hi : i < a.length := by omega
    have hj : i < b.length := by omega
    have ea : a.drop i = a[i] :: a.drop (i + 1) := List.drop_eq_getElem_cons hi
    have eb : b.drop i = b[i] :: b.drop (i + 1) := List.drop_eq_getElem_cons hj
    obtain ⟨r, hr, hr2⟩ := same_loop a b hab hl d (i + 1) (by omega)
    have si := same_iff a[i] b[i]
    rw [ea, eb]
    have hs : ∀ k, rhizomeref03_Same.l0 (k + 1) a b (i : Int) = if (!((a[i].f0 == b[i].f0) && ((a[i].f1 == b[i].f1) && ((a[i].f2 == b[i].f2) && (a[i].f3.toList == b[i].f3.toList))))) = true then some false else rhizomeref03_Same.l0 k a b ((i + 1 : Nat) : Int) := fun k => by
      simp only [rhizomeref03_Same.l0]
      rw [if_pos (by omega), if_pos (by omega), if_pos (by omega), rd_nat a i hi, rd_nat b i hj, wrap_succ i (by omega)]
      simp only [Bool.not_and]
    by_cases c : a[i] = b[i]
    · refine ⟨r, Ev.step (fun k => ?_) hr, ?_⟩
      · rw [hs k, si.mpr c]; simp
      · rw [hr2, c]; exact ⟨fun z => by rw [z], fun z => (List.cons.inj z).2⟩
    · refine ⟨false, Ev.step (f := fun _ => some false) (fun k => ?_) (Ev.now _), ?_⟩
      · rw [hs k, Bool.eq_false_iff.mpr (fun z => c (si.mp z))]; simp
      · exact ⟨fun z => (by cases z), fun z => absurd (List.cons.inj z).1 c⟩

theorem same_ev (a b : List Part) (hl : a.length ≤ 4611686018427387904) : ∃ r : Bool, Ev (fun k => rhizomeref03_Same.f k a b) r ∧ (r = true ↔ a = b) := by
  unfold rhizomeref03_Same.f
  by_cases c : a.length = b.length
  · simp only [show ((a.length : Int) = (b.length : Int)) from by omega, if_true]
    simpa using same_loop a b c hl a.length 0 (by omega)
  · simp only [show ¬ ((a.length : Int) = (b.length : Int)) from by omega, if_false]
    exact ⟨false, Ev.now _, by simp; rintro rfl; exact c rfl⟩

theorem enc_zero {a b : List Part} (wa : ∀ p ∈ a, WF p) (wb : ∀ p ∈ b, WF p) (oa : ∀ p ∈ a, okP p = true) (ob : ∀ p ∈ b, okP p = true) : enc a = enc b ↔ a = b := by
  constructor
  · intro h
    have := cmp_enc a b wa wb oa ob
    rw [h, cmp_self] at this
    exact cmpP_zero wa wb oa ob this.symm
  · rintro rfl; rfl

theorem order_j0 (a b : List Part) (wa : ∀ p ∈ a, WF p) (wb : ∀ p ∈ b, WF p) (ha : chk a = 0) (hb : chk b = 0) :
    Ev (fun k => rhizomelaw03_KeysOrder.j0 k a b ⟨(enc a).toArray⟩ 0 ⟨(enc b).toArray⟩ 0 false) true := by
  obtain ⟨la, oa⟩ := chk_ok ha
  obtain ⟨lb, ob⟩ := chk_ok hb
  have hc := cmp_enc a b wa wb oa ob
  have hc' := cmp_enc b a wb wa ob oa
  obtain ⟨r, hr, hr2⟩ := same_ev a b (by omega)
  refine Ev.step (f := fun k => (keys_Cmp.f k a b).bind fun t293 => if (Op.bytesLess (enc a) (enc b) == (t293 == (-1))) = true then (if (Op.bytesLess (enc b) (enc a) == (t293 == 1)) = true then ((rhizomeref03_Same.f k a b).bind fun t294 => some ((enc a == enc b) == t294)) else some false) else some false) (fun k => by simp only [rhizomelaw03_KeysOrder.j0, Bool.false_eq_true, if_false, Lib.toList_data]) (Ev.bind (cmp_ev a b wa wb ha hb) ?_)
  have e1 : (Op.bytesLess (enc a) (enc b) == (cmpP a b == (-1))) = true := by rw [less_iff, hc]; simp
  have e2 : (Op.bytesLess (enc b) (enc a) == (cmpP a b == 1)) = true := by
    rw [less_iff, hc', cmpP_swap]
    rcases cmpP_vals a b with h | h | h <;> rw [h] <;> rfl
  simp only [e1, e2, if_true]
  refine Ev.bind hr ?_
  have e3 : ((enc a == enc b) == r) = true := by
    have z := enc_zero wa wb oa ob
    by_cases c : a = b
    · rw [hr2.mpr c, z.mpr c]; simp
    · have : r = false := Bool.eq_false_iff.mpr (fun y => c (hr2.mp y))
      rw [this]; simp [z, c]
  rw [e3]
  exact Ev.now _

theorem keysOrder (a b : List Part) (wa : ∀ p ∈ a, WF p) (ha : a.length * 40 ≤ 140737488351232) (wb : ∀ p ∈ b, WF p) (hb : b.length * 40 ≤ 140737488351232) : ∃ k, rhizomelaw03_KeysOrder.f k a b = some true := by
  refine Ev.rounds (g := fun k => rhizomelaw03_KeysOrder.f k a b) ?_
  unfold rhizomelaw03_KeysOrder.f
  refine Ev.bind (encode_ev a wa) (Ev.bind (encode_ev b wb) (Ev.bind fixed_ev2 ?_))
  simp only [if_true]
  unfold encR
  by_cases ca : chk a = 0
  · by_cases cb : chk b = 0
    · simp only [ca, cb, if_true]
      exact order_j0 a b wa wb ca cb
    · have e : chk b = 30 := (chk_vals b).resolve_left cb
      simp only [ca, if_true, if_neg cb, e]
      exact Ev.step (f := fun _ => some true) (fun k => by simp [rhizomelaw03_KeysOrder.j0, Lib.toList_data]) (Ev.now _)
  · have e : chk a = 30 := (chk_vals a).resolve_left ca
    simp only [if_neg ca, e]
    by_cases cb : chk b = 0
    · simp only [cb, if_true]
      exact Ev.step (f := fun _ => some true) (fun k => by simp [rhizomelaw03_KeysOrder.j0, Lib.toList_data]) (Ev.now _)
    · have e : chk b = 30 := (chk_vals b).resolve_left cb
      simp only [if_neg cb, e]
      exact Ev.step (f := fun _ => some true) (fun k => by simp [rhizomelaw03_KeysOrder.j0, Lib.toList_data]) (Ev.now _)

end Go.Proofs.YtpimfioeeipnhaaDoor.Pl
