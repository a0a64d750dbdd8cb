/-
  The law KeysJoin, plain: what the printed functions come to is true. Condition: the lists' lengths.
-/
import Derived.Test.YtpimfioeeipnhaaDoorSpecD
import Derived.Test.YtpimfioeeipnhaaDoorKx32
namespace Go.Proofs.YtpimfioeeipnhaaDoor.Pl
open Go.Proofs.YtpimfioeeipnhaaDoor.Hand Go.Proofs.YtpimfioeeipnhaaDoor.K Go.Lib Go.RowKit Go.Proofs.YtpimfioeeipnhaaDoorW.PrintWords Go.Proofs.YtpimfioeeipnhaaDoorW.PrintMore
set_option linter.unusedVariables false
set_option linter.unusedSimpArgs false

theorem fixed_ev4 : Ev (fun k => rhizomelaw03_fixed.f k) true := Ev.of rhizomelaw03_fixed.mono fixed_at

theorem chk_app (a b : List Part) : chk (a ++ b) = 0 ↔ (chk a = 0 ∧ chk b = 0) ∧ (a ++ b).length ≤ 16 := by
  constructor
  · intro h
    obtain ⟨h1, h2⟩ := chk_ok h
    rw [List.length_append] at h1
    have ea : a.all okP = true := List.all_eq_true.mpr fun p hp => h2 p (by simp [hp])
    have eb : b.all okP = true := List.all_eq_true.mpr fun p hp => h2 p (by simp [hp])
    refine ⟨⟨?_, ?_⟩, by rw [List.length_append]; exact h1⟩
    · unfold chk; rw [if_neg (by omega), if_pos ea]
    · unfold chk; rw [if_neg (by omega), if_pos eb]
  · rintro ⟨⟨ha, hb⟩, hl⟩
    have oa := (chk_ok ha).2
    have ob := (chk_ok hb).2
    unfold chk
    rw [if_neg (by omega), if_pos]
    rw [List.all_eq_true]
    intro p hp
    rcases List.mem_append.mp hp with h | h
    · exact oa p h
    · exact ob p h

theorem enc_app (a b : List Part) : enc (a ++ b) = enc a ++ enc b := by unfold enc; rw [List.flatMap_append]

theorem enc_len : ∀ (l : List Part), (∀ p ∈ l, okP p = true) → (enc l).length ≤ 513 * l.length
  | [], _ => by simp [enc]
  | p :: l, h => by
    have e : enc (p :: l) = partB p ++ enc l := rfl
    have := enc_len l (fun q hq => h q (by simp [hq]))
    have := (partB_len (h p (by simp))).1
    rw [e, List.length_append, List.length_cons]
    omega

theorem enc_size {a : List Part} (h : chk a = 0) : (⟨(enc a).toArray⟩ : ByteArray).size ≤ 10000 := by
  obtain ⟨h1, h2⟩ := chk_ok h
  have := enc_len a h2
  have e : (⟨(enc a).toArray⟩ : ByteArray).size = (enc a).length := rfl
  omega

theorem join_no (x y : ByteArray) (v : Int) : Ev (fun k => rhizomelaw03_KeysJoin.j0 k x y ⟨#[]⟩ 30 false) true :=
  Ev.step (f := fun _ => some true) (fun k => by simp [rhizomelaw03_KeysJoin.j0, Lib.toList_data]) (Ev.now _)

theorem join_yes (a b : List Part) (h : chk (a ++ b) = 0) : Ev (fun k => rhizomelaw03_KeysJoin.j0 k ⟨(enc a).toArray⟩ ⟨(enc b).toArray⟩ ⟨(enc (a ++ b)).toArray⟩ 0 false) true := by
  obtain ⟨⟨ha, hb⟩, hl⟩ := (chk_app a b).mp h
  have za := enc_size ha
  have zb := enc_size hb
  have hd : ((⟨(enc a).toArray⟩ : ByteArray) ++ (⟨(enc b).toArray⟩ : ByteArray)).data.toList = enc (a ++ b) := by rw [ByteArray.data_append, Array.toList_append, enc_app]
  refine Ev.step (f := fun k => (keys_After.f k ⟨(enc a).toArray⟩).bind fun bt325 => if Op.bytesLess (enc (a ++ b)) (enc a) = true then some false else if bt325.2 = true then some (Op.bytesLess (enc (a ++ b)) bt325.1.data.toList) else some true) (fun k => ?_) (Ev.bind (after_f _ (by omega)) ?_)
  · simp only [rhizomelaw03_KeysJoin.j0, Bool.false_eq_true, if_false, if_true, Lib.toList_data, hd, show (⟨(enc a).toArray⟩ : ByteArray).size + (⟨(enc b).toArray⟩ : ByteArray).size ≤ 9223372036854775807 from by omega]
  · have pre : enc a <+: enc (a ++ b) := by rw [enc_app]; exact List.prefix_append _ _
    cases ha : aft (enc a) with
    | none =>
      have e : aftR (enc a) = (⟨#[]⟩, false) := by unfold aftR; rw [ha]
      have hn := (aft_none (enc a) (enc (a ++ b)) ha).mp pre
      show Ev _ _
      rw [show (⟨(enc a).toArray⟩ : ByteArray).data.toList = enc a from rfl, e, hn]
      exact Ev.now _
    | some x =>
      have e : aftR (enc a) = (⟨x.toArray⟩, true) := by unfold aftR; rw [ha]
      have hn := (aft_some (enc a) x (enc (a ++ b)) ha).mp pre
      rw [show (⟨(enc a).toArray⟩ : ByteArray).data.toList = enc a from rfl, e, hn.1]
      simp only [Bool.false_eq_true, if_false, if_true, hn.2]
      exact Ev.now _

theorem keysJoin (a b : List Part) (wa : ∀ p ∈ a, WF p) (la : a.length ≤ 1048576) (wb : ∀ p ∈ b, WF p) (lb : b.length ≤ 1048576) : ∃ k, rhizomelaw03_KeysJoin.f k a b = some true := by
  refine Ev.rounds (g := fun k => rhizomelaw03_KeysJoin.f k a b) ?_
  unfold rhizomelaw03_KeysJoin.f
  have wab : ∀ x ∈ a ++ b, WF x := fun x hx => by
    rcases List.mem_append.mp hx with h | h
    · exact wa x h
    · exact wb x h
  simp only [Option.bind_some, List.nil_append, List.length_nil, show (0 + a.length < 3518437208883) from by omega, show (a.length + b.length < 3518437208883) from by omega, if_true]
  refine Ev.bind (encode_ev a wa) (Ev.bind (encode_ev b wb) (Ev.bind (encode_ev (a ++ b) wab) (Ev.bind fixed_ev4 ?_)))
  simp only [if_true]
  have ca := chk_app a b
  unfold encR
  by_cases c : chk (a ++ b) = 0
  · obtain ⟨⟨ha, hb⟩, hl⟩ := ca.mp c
    simp only [c, ha, hb, if_true]
    rw [decide_eq_true (by omega : ((a ++ b).length : Int) ≤ 16)]
    exact join_yes a b c
  · have e : chk (a ++ b) = 30 := (chk_vals _).resolve_left c
    simp only [if_neg c, e]
    by_cases ha : chk a = 0
    · by_cases hb : chk b = 0
      · simp only [ha, hb, if_true]
        rw [decide_eq_false (fun z => c (ca.mpr ⟨⟨ha, hb⟩, by omega⟩))]
        exact join_no _ _ 0
      · simp only [ha, if_true, if_neg hb]
        exact join_no _ _ 0
    · simp only [if_neg ha]
      exact join_no _ _ 0

end Go.Proofs.YtpimfioeeipnhaaDoor.Pl
