/-
  The law KeysBack, plain: what the printed functions come to is true. Condition: the list's and the text's lengths.
-/
import Derived.Test.YtpimfioeeipnhaaDoorSpecB
import Derived.Test.YtpimfioeeipnhaaDoorSpecS
import Derived.Test.YtpimfioeeipnhaaDoorKx31
namespace Go.Proofs.YtpimfioeeipnhaaDoor.Pl
open Go.Proofs.YtpimfioeeipnhaaDoor.Hand Go.Proofs.YtpimfioeeipnhaaDoor.K Go.Lib Go.RowKit Go.Proofs.YtpimfioeeipnhaaDoorW.PrintWords Go.Proofs.YtpimfioeeipnhaaDoorW.PrintMore
set_option linter.unusedVariables false
set_option linter.unusedSimpArgs false

theorem fixed_ev7 : Ev (fun k => rhizomelaw03_fixed.f k) true := Ev.of rhizomelaw03_fixed.mono fixed_at

theorem enc_long : ∀ (l : List Part), (∀ p ∈ l, okP p = true) → (enc l).length ≤ 513 * l.length
  | [], _ => by simp [enc]
  | p :: l, h => by
    have e : enc (p :: l) = partB p ++ enc l := rfl
    have := enc_long l (fun q hq => h q (by simp [hq]))
    have := (partB_len (h p (by simp))).1
    rw [e, List.length_append, List.length_cons]
    omega

theorem whole_of {a : List Part} (wa : ∀ p ∈ a, WF p) (c : chk a = 0) : IsDec [] (enc a) (a, 0) :=
  .inl ⟨a, ⟨wa, (chk_ok c).2, rfl⟩, by unfold fin; rw [List.nil_append, if_pos c]⟩

theorem back_j0 (s : ByteArray) (hs : s.size ≤ 1048576) : Ev (fun k => rhizomelaw03_KeysBack.j0 k s) true := by
  obtain ⟨r, hr, hd⟩ := decode_ev s hs
  refine Ev.step (f := fun k => (keys_Decode.f k s).bind fun bt303 => if bt303.2 = 0 then ((keys_Encode.f k bt303.1).bind fun bt307 => if bt307.1.toList = s.toList then some (bt307.2 == 0) else some false) else some ((bt303.1.length : Int) == 0)) (fun k => by simp only [rhizomelaw03_KeysBack.j0]) (Ev.bind hr ?_)
  have no : Ev (fun k => if (([] : List Part), (31 : Int)).2 = 0 then ((keys_Encode.f k (([] : List Part), (31 : Int)).1).bind fun bt307 => if bt307.1.toList = s.toList then some (bt307.2 == 0) else some false) else some (((([] : List Part), (31 : Int)).1.length : Int) == 0)) true := by
    rw [show (fun k => _) = fun _ => some true from funext fun k => by rw [if_neg (by decide)]; rfl]
    exact Ev.now _
  rcases hd with ⟨qs, ⟨wq, oq, eq⟩, rfl⟩ | ⟨rfl, _⟩
  · unfold fin
    rw [List.nil_append]
    by_cases c : chk qs = 0
    · rw [if_pos c]
      simp only [if_true]
      refine Ev.bind (encode_ev qs wq) ?_
      unfold encR
      rw [if_pos c]
      simp only [Lib.toList_data, eq, if_true]
      exact Ev.now _
    · rw [if_neg c]; exact no
  · exact no

theorem keysBack (a : List Part) (s : ByteArray) (wa : ∀ p ∈ a, WF p) (la : a.length ≤ 1048576) (hs : s.size ≤ 1048576) : ∃ k, rhizomelaw03_KeysBack.f k a s = some true := by
  refine Ev.rounds (g := fun k => rhizomelaw03_KeysBack.f k a s) ?_
  unfold rhizomelaw03_KeysBack.f
  refine Ev.bind (encode_ev a wa) (Ev.bind fixed_ev7 ?_)
  simp only [if_true]
  unfold encR
  by_cases c : chk a = 0
  · rw [if_pos c]
    simp only [if_true]
    obtain ⟨h1, h2⟩ := chk_ok c
    have hl := enc_long a h2
    obtain ⟨r, hr, hd⟩ := decode_ev ⟨(enc a).toArray⟩ (by rw [Lib.size_eq]; show (enc a).length ≤ _; omega)
    refine Ev.bind hr ?_
    rw [isDec_inj hd (whole_of wa c)]
    simp only [if_true]
    obtain ⟨x, hx, hx2⟩ := same_ev a a (by omega)
    have := hx2.mpr rfl
    subst this
    refine Ev.bind hx ?_
    simp only [if_true]
    exact back_j0 s hs
  · rw [if_neg c]
    simp only [if_neg c]
    exact back_j0 s hs

end Go.Proofs.YtpimfioeeipnhaaDoor.Pl
