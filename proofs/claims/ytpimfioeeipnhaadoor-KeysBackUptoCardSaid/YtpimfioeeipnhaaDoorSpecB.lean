/-
  What keys.read and keys.Decode come to: the one list of parts whose bytes these are, or that there is none. Condition: the text's length.
-/
import Derived.Test.YtpimfioeeipnhaaDoorSpecC
import Derived.Test.YtpimfioeeipnhaaDoorKx13
namespace Go.Proofs.YtpimfioeeipnhaaDoor.Pl
open Go.Proofs.YtpimfioeeipnhaaDoor.Hand Go.Proofs.YtpimfioeeipnhaaDoor.K Go.Lib Go.RowKit Go.Proofs.YtpimfioeeipnhaaDoorW.PrintWords Go.Proofs.YtpimfioeeipnhaaDoorW.PrintMore
set_option linter.unusedVariables false
set_option linter.unusedSimpArgs false

theorem head_of (s : ByteArray) (c : UInt8) (T : List UInt8) (e : s.data.toList = c :: T) :
    ∃ h : 0 < s.size, s[0]'h = c ∧ (s.extract 1 s.size).data.toList = T ∧ s.size = T.length + 1 := by
  have hz := Lib.size_eq s
  rw [e, List.length_cons] at hz
  have h : 0 < s.size := by omega
  refine ⟨h, ?_, ?_, hz⟩
  · have : s[0]'h = s.data.toList[0]'(by rw [e]; simp) := rfl
    rw [this]
    simp [e]
  · rw [Lib.extract_data, e]
    simp only [List.drop_succ_cons, List.drop_zero]
    exact List.take_of_length_le (by omega)

theorem ext8 (s : ByteArray) (a b : List UInt8) (e : s.data.toList = a ++ b) (h : a.length = 8) (n : Nat) (hn : n = s.size) : (s.extract 8 n).data.toList = b := by
  subst hn
  have hz := Lib.size_eq s
  rw [Lib.extract_data, e]
  rw [e, List.length_append] at hz
  have : (a ++ b).drop 8 = b := by rw [List.drop_append_of_le_length (by omega), List.drop_of_length_le (by omega), List.nil_append]
  first
  | (rw [this, List.take_of_length_le (by omega)]; done)
  | (rw [List.take_of_length_le (by rw [List.length_append]; omega), this]; done)

theorem from_key (a : Int) (h0 : 0 ≤ a) (h1 : a < 18446744073709551616) (hz : a ≠ 9223372036854775808) (hn : a % 9223372036854775808 ≤ 9218868437227405312) : floats_FromKey.f (keyN a : Int) = some (a, 0) := by
  unfold floats_FromKey.f keyN
  by_cases c : a < 9223372036854775808
  · rw [if_pos c, if_neg (by omega), if_neg (by omega)]
    congr 2
    omega
  · rw [if_neg c, if_neg (by omega), if_pos (by omega), or_sign _ (by omega) (by omega)]
    congr 2
    omega

theorem from_key_inv (n : Nat) (x : Int) (hn : n < 18446744073709551616) (h : floats_FromKey.f (n : Int) = some (x, 0)) : 0 ≤ x ∧ x < 18446744073709551616 ∧ keyN x = n := by
  unfold floats_FromKey.f at h
  split at h
  · cases h
  · split at h
    · rw [or_sign _ (by omega) (by omega)] at h
      simp only [Option.some.injEq, Prod.mk.injEq, and_true] at h
      subst h
      unfold keyN
      refine ⟨by omega, by omega, ?_⟩
      rw [if_neg (by omega)]
      omega
    · simp only [Option.some.injEq, Prod.mk.injEq, and_true] at h
      subst h
      unfold keyN
      refine ⟨by omega, by omega, ?_⟩
      rw [if_pos (by omega)]
      omega

theorem w64_u64 (n : Int) (h0 : 0 ≤ n) (h1 : n < 18446744073709551616) : wrap64 (IntKind.u64.wrap (n - 9223372036854775808)) = n - 9223372036854775808 := by
  have e (m : Int) : IntKind.u64.wrap m = m % 18446744073709551616 := by simp [IntKind.wrap, IntKind.bits, IntKind.signed]
  rw [e]
  unfold wrap64
  omega

theorem nil_of (p : Part) (h : tx p = []) : p.f3 = ⟨#[]⟩ := of_toList_nil h

theorem wf_mk {a b c : Int} {t : ByteArray} (h1 : -9223372036854775808 ≤ a) (h2 : a ≤ 9223372036854775807) (h3 : -9223372036854775808 ≤ b) (h4 : b ≤ 9223372036854775807) (h5 : 0 ≤ c) (h6 : c < 18446744073709551616) : WF ⟨a, b, c, t⟩ := ⟨h1, h2, h3, h4, h5, h6⟩
theorem partB_mk0 (n b : Int) (t : ByteArray) : partB ⟨0, n, b, t⟩ = 1 :: be8 (n + 9223372036854775808).toNat := partB_int rfl
theorem partB_mk1 (n b : Int) (t : ByteArray) : partB ⟨1, n, b, t⟩ = 2 :: be8 (keyN b) := partB_num rfl
theorem partB_mk2 (n b : Int) (t : ByteArray) : partB ⟨2, n, b, t⟩ = 3 :: (esc t.data.toList ++ [0, 0]) := partB_text rfl
theorem n3 : (((3 : UInt8).toNat : Nat) : Int) - 1 = 2 := rfl
theorem n1 : (((1 : UInt8).toNat : Nat) : Int) - 1 = 0 := rfl
theorem n2 : (((2 : UInt8).toNat : Nat) : Int) - 1 = 1 := rfl

/-- What stands at a text's head is read. -/
theorem read_some (s : ByteArray) (p : Part) (R : List UInt8) (hs : s.size ≤ 140737488355328) (w : WF p) (o : okP p = true) (e : s.data.toList = partB p ++ R) :
    keys_read.f s = some (p.f0, p.f1, p.f2, p.f3, ⟨R.toArray⟩, true) := by
  unfold keys_read.f
  rcases ok_kind o with c | c | c
  · obtain ⟨z2, z3⟩ := ok_int o c
    have a1 := w.a1
    have b1 := w.b1
    rw [partB_int c, List.cons_append] at e
    obtain ⟨h, hc, ht, hz⟩ := head_of s _ _ e
    rw [List.length_append, be8_length] at hz
    have hT : (s.extract 1 s.size).size = 8 + R.length := by rw [Lib.size_eq, ht, List.length_append, be8_length]
    have hr : (s.extract 1 s.size).extract 8 (s.size - 1) = ⟨R.toArray⟩ := of_toList_eq (ext8 _ _ _ ht (be8_length _) _ (by omega))
    rw [dif_pos h, hc, if_neg (by decide), if_neg (by omega), keys_small.f, if_pos (by omega), ht, List.take_append_of_le_length (by rw [be8_length]; omega), List.take_of_length_le (by rw [be8_length]; omega), beN_be8 _ (by omega), Option.bind_some, if_pos (by rfl), hr, w64_u64 _ (by omega) (by omega), c, z2, nil_of p z3]
    have : ((p.f1 + 9223372036854775808).toNat : Int) - 9223372036854775808 = p.f1 := by omega
    rw [this]
    rfl
  · obtain ⟨z1, z2, z3, z4⟩ := ok_num o c
    have kl := keyN_lt p.f2 w.a2
    rw [partB_num c, List.cons_append] at e
    obtain ⟨h, hc, ht, hz⟩ := head_of s _ _ e
    rw [List.length_append, be8_length] at hz
    have hT : (s.extract 1 s.size).size = 8 + R.length := by rw [Lib.size_eq, ht, List.length_append, be8_length]
    have hr : (s.extract 1 s.size).extract 8 (s.size - 1) = ⟨R.toArray⟩ := of_toList_eq (ext8 _ _ _ ht (be8_length _) _ (by omega))
    rw [dif_pos h, hc, if_neg (by decide), if_neg (by omega), keys_small.f, if_pos (by omega), ht, List.take_append_of_le_length (by rw [be8_length]; omega), List.take_of_length_le (by rw [be8_length]; omega), beN_be8 _ kl, Option.bind_some, if_neg (by decide), if_pos (by rfl), from_key _ w.a2 w.b2 z3 z4, Option.bind_some, if_pos rfl, hr, c, z1, nil_of p z2]
    rfl
  · obtain ⟨z1, z2, z3⟩ := ok_text o c
    rw [partB_text c, List.cons_append, List.append_assoc] at e
    obtain ⟨h, hc, ht, hz⟩ := head_of s _ _ e
    have hT : (s.extract 1 s.size).size ≤ 140737488355328 := by rw [Lib.size_eq, ht]; omega
    have htx : txt [] (esc (tx p) ++ ([0, 0] ++ R)) = (tx p, R, true) := by
      have := txt_esc (tx p) [] R
      simpa using this
    rw [dif_pos h, hc, if_pos (by rfl), keys_text.f, if_pos hT, ht, htx, Option.bind_some, c, z1, z2]
    have : (⟨(tx p).toArray⟩ : ByteArray) = p.f3 := of_toList_eq rfl
    rw [this]
    rfl

/-- What is read stood at the head. -/
theorem read_true (s : ByteArray) (k n b : Int) (t r : ByteArray) (h : keys_read.f s = some (k, n, b, t, r, true)) :
    WF ⟨k, n, b, t⟩ ∧ s.data.toList = partB ⟨k, n, b, t⟩ ++ r.data.toList := by
  unfold keys_read.f at h
  split at h
  · rename_i h0
    obtain ⟨c, T, e⟩ : ∃ c T, s.data.toList = c :: T := by
      cases hl : s.data.toList with
      | nil => rw [Lib.size_eq, hl] at h0; simp at h0
      | cons c T => exact ⟨c, T, rfl⟩
    obtain ⟨_, hc, ht, hz⟩ := head_of s c T e
    rw [hc] at h
    have hT : (s.extract 1 s.size).size = T.length := by rw [Lib.size_eq, ht]
    split at h
    · rename_i h3
      have c3 : c = 3 := UInt8.toNat_inj.mp h3
      subst c3
      unfold keys_text.f at h
      split at h
      · rw [ht] at h
        simp only [Option.bind_some, Option.some.injEq, Prod.mk.injEq] at h
        obtain ⟨rfl, rfl, rfl, rfl, rfl, h5⟩ := h
        have ex : txt [] T = ((txt [] T).1, (txt [] T).2.1, true) := by rw [← h5]
        obtain ⟨u, hu, hT2⟩ := txt_inv T [] _ _ ex
        rw [List.nil_append] at hu
        rw [n3]
        refine ⟨wf_mk (by omega) (by omega) (by omega) (by omega) (by omega) (by omega), ?_⟩
        rw [partB_mk2, e]
        show 3 :: T = 3 :: (esc (txt [] T).1 ++ [0, 0]) ++ (txt [] T).2.1
        rw [List.cons_append, List.append_assoc, hu]
        congr 1
      · cases h
    · split at h
      · simp at h
      · rename_i h3 h9
        have h8 : 8 ≤ T.length := by omega
        have hlt := beN_lt 8 (T.take 8) (by rw [List.length_take]; omega)
        have p8 : (256 : Nat) ^ 8 = 18446744073709551616 := by decide
        have hb8 : be8 (beN (T.take 8)) = T.take 8 := be8_beN _ (by rw [List.length_take]; omega)
        have hr : ((s.extract 1 s.size).extract 8 (s.size - 1)).data.toList = T.drop 8 := ext8 _ (T.take 8) (T.drop 8) (by rw [ht, List.take_append_drop]) (by rw [List.length_take]; omega) _ (by omega)
        unfold keys_small.f at h
        rw [if_pos (by omega), ht, Option.bind_some] at h
        split at h
        · rename_i h1
          have c1 : c = 1 := UInt8.toNat_inj.mp h1
          subst c1
          simp only [Option.some.injEq, Prod.mk.injEq, and_true] at h
          obtain ⟨rfl, rfl, rfl, rfl, rfl⟩ := h
          rw [w64_u64 _ (by omega) (by omega)]
          rw [n1]
          refine ⟨wf_mk (by omega) (by omega) (by omega) (by omega) (by omega) (by omega), ?_⟩
          rw [partB_mk0, hr, e]
          have : ((beN (T.take 8) : Int) - 9223372036854775808 + 9223372036854775808).toNat = beN (T.take 8) := by omega
          show 1 :: T = 1 :: be8 (((beN (T.take 8) : Int) - 9223372036854775808) + 9223372036854775808).toNat ++ T.drop 8
          rw [this, hb8, List.cons_append, List.take_append_drop]
        · split at h
          · rename_i h1 h2
            have c2 : c = 2 := UInt8.toNat_inj.mp h2
            subst c2
            cases hx : floats_FromKey.f (beN (T.take 8) : Int) with
            | none => rw [hx] at h; cases h
            | some x =>
              rw [hx, Option.bind_some] at h
              split at h
              · rename_i hx0
                obtain ⟨x1, x2⟩ := x
                subst hx0
                obtain ⟨f0, f1, f2⟩ := from_key_inv _ _ (by omega) hx
                simp only [Option.some.injEq, Prod.mk.injEq, and_true] at h
                obtain ⟨rfl, rfl, rfl, rfl, rfl⟩ := h
                rw [n2]
                refine ⟨wf_mk (by omega) (by omega) (by omega) (by omega) f0 f1, ?_⟩
                rw [partB_mk1, hr, e]
                show 2 :: T = 2 :: be8 (keyN x1) ++ T.drop 8
                rw [f2, hb8, List.cons_append, List.take_append_drop]
              · simp at h
          · simp at h
  · cases h

theorem read_tot (s : ByteArray) (hs : s.size ≤ 140737488355328) (h0 : 0 < s.size) : ∃ k n b t r ok, keys_read.f s = some (k, n, b, t, r, ok) := by
  unfold keys_read.f
  rw [dif_pos h0]
  have hT : (s.extract 1 s.size).size = s.size - 1 := by
    rw [ByteArray.size_extract]; omega
  split
  · unfold keys_text.f
    rw [if_pos (by omega), Option.bind_some]
    exact ⟨_, _, _, _, _, _, rfl⟩
  · split
    · exact ⟨_, _, _, _, _, _, rfl⟩
    · unfold keys_small.f
      rw [if_pos (by omega), Option.bind_some]
      split
      · exact ⟨_, _, _, _, _, _, rfl⟩
      · split
        · have : ∃ x, floats_FromKey.f (beN ((s.extract 1 s.size).data.toList.take 8) : Int) = some x := by
            unfold floats_FromKey.f
            split
            · exact ⟨_, rfl⟩
            · split <;> exact ⟨_, rfl⟩
          obtain ⟨x, hx⟩ := this
          rw [hx, Option.bind_some]
          split <;> exact ⟨_, _, _, _, _, _, rfl⟩
        · exact ⟨_, _, _, _, _, _, rfl⟩

/-! decoding -/
def fin (ps : List Part) : List Part × Int := if chk ps = 0 then (ps, 0) else ([], 31)
def Whole (l : List UInt8) (qs : List Part) : Prop := (∀ q ∈ qs, WF q) ∧ (∀ q ∈ qs, okP q = true) ∧ l = enc qs
def IsDec (acc : List Part) (l : List UInt8) (r : List Part × Int) : Prop :=
  (∃ qs, Whole l qs ∧ r = fin (acc ++ qs)) ∨ (r = ([], 31) ∧ ¬ ∃ qs, Whole l qs)

theorem whole_inj {l : List UInt8} {a b : List Part} (h : Whole l a) (k : Whole l b) : a = b := by
  obtain ⟨wa, oa, ea⟩ := h
  obtain ⟨wb, ob, eb⟩ := k
  have := cmp_enc a b wa wb oa ob
  rw [← ea, ← eb, cmp_self] at this
  exact cmpP_zero wa wb oa ob this.symm

theorem isDec_inj {l : List UInt8} {r r' : List Part × Int} (h : IsDec [] l r) (k : IsDec [] l r') : r = r' := by
  rcases h with ⟨a, ha, rfl⟩ | ⟨rfl, ha⟩
  · rcases k with ⟨b, hb, rfl⟩ | ⟨rfl, hb⟩
    · rw [whole_inj ha hb]
    · exact absurd ⟨a, ha⟩ hb
  · rcases k with ⟨b, hb, rfl⟩ | ⟨rfl, hb⟩
    · exact absurd ⟨b, hb⟩ ha
    · rfl

theorem whole_cons {l : List UInt8} {p : Part} {R : List UInt8} {qs : List Part} (w : WF p) (o : okP p = true) (e : l = partB p ++ R) (h : Whole R qs) : Whole l (p :: qs) := by
  obtain ⟨wq, oq, eq⟩ := h
  refine ⟨fun q hq => ?_, fun q hq => ?_, by rw [e, eq]; rfl⟩
  · rcases List.mem_cons.mp hq with rfl | h
    · exact w
    · exact wq q h
  · rcases List.mem_cons.mp hq with rfl | h
    · exact o
    · exact oq q h

theorem whole_head {l : List UInt8} {qs : List Part} (h : Whole l qs) (hl : l ≠ []) : ∃ q rs, qs = q :: rs ∧ WF q ∧ okP q = true ∧ l = partB q ++ enc rs ∧ Whole (enc rs) rs := by
  obtain ⟨wq, oq, eq⟩ := h
  cases qs with
  | nil => exact absurd eq hl
  | cons q rs => exact ⟨q, rs, rfl, wq q (by simp), oq q (by simp), eq, fun x hx => wq x (by simp [hx]), fun x hx => oq x (by simp [hx]), rfl⟩

theorem fin_bad {acc qs : List Part} {p : Part} (h : ¬ okP p = true) : fin (acc ++ [p] ++ qs) = ([], 31) := by
  unfold fin
  rw [if_neg (fun z => h ((chk_ok z).2 p (by simp)))]

theorem decode_loop : ∀ (n : Nat) (s : ByteArray) (acc : List Part), s.size ≤ n → s.size ≤ 1048576 → acc.length + s.size ≤ 3518437208000 → (∀ p ∈ acc, WF p) →
    ∃ r, Ev (fun k => keys_Decode.l0 k s acc) r ∧ IsDec acc s.data.toList r
  | n, s, acc, hn, hs, ha, wa => by
    by_cases h0 : s.data.toList = []
    · refine ⟨fin acc, ?_, .inl ⟨[], ⟨by simp, by simp, h0⟩, by rw [List.append_nil]⟩⟩
      refine Ev.step (f := fun k => (keys_Check.f k acc).bind fun t163 => if t163 = 0 then some (acc, 0) else some ([], 31)) (fun k => by simp only [keys_Decode.l0]; rw [if_pos (by rw [Lib.toList_data]; exact h0)]) (Ev.bind (check_ev acc wa) ?_)
      unfold fin
      by_cases c : chk acc = 0
      · simp only [if_pos c]; exact Ev.now _
      · simp only [if_neg c]; exact Ev.now _
    · have hz := Lib.size_eq s
      have hpos : 0 < s.size := by
        cases hl : s.data.toList with
        | nil => exact absurd hl h0
        | cons c T => rw [hl, List.length_cons] at hz; omega
      obtain ⟨k, nn, b, t, r, ok, hr⟩ := read_tot s (by omega) hpos
      have hstep : ∀ j, keys_Decode.l0 (j + 1) s acc = if ok = true then (if acc.length < 3518437208883 then keys_Decode.l0 j r (acc ++ [⟨k, nn, b, t⟩]) else none) else some ([], 31) := fun j => by
        simp only [keys_Decode.l0]
        rw [if_neg (by rw [Lib.toList_data]; exact h0), hr, Option.bind_some]
      cases ok with
      | true =>
        obtain ⟨wp, ep⟩ := read_true s k nn b t r hr
        have hrs := Lib.size_eq r
        have hpl : 1 ≤ (partB ⟨k, nn, b, t⟩).length := by
          cases hb : partB ⟨k, nn, b, t⟩ with
          | nil => exact absurd hb (partB_ne _)
          | cons _ _ => simp
        rw [ep, List.length_append] at hz
        match n, hn with
        | 0, hn => omega
        | n + 1, hn =>
          obtain ⟨x, hx, hd⟩ := decode_loop n r (acc ++ [⟨k, nn, b, t⟩]) (by omega) (by omega) (by rw [List.length_append, List.length_singleton]; omega) (fun p hp => by
            rcases List.mem_append.mp hp with h | h
            · exact wa p h
            · rw [List.mem_singleton.mp h]; exact wp)
          refine ⟨x, Ev.step (fun j => by rw [hstep j, if_pos rfl, if_pos (by omega)]) hx, ?_⟩
          have same : ∀ q rs, WF q → okP q = true → s.data.toList = partB q ++ enc rs → q = ⟨k, nn, b, t⟩ ∧ r.data.toList = enc rs := fun q rs wq oq eq => by
            have := read_some s q (enc rs) (by omega) wq oq eq
            rw [hr] at this
            simp only [Option.some.injEq, Prod.mk.injEq, and_true] at this
            obtain ⟨rfl, rfl, rfl, rfl, rfl⟩ := this
            exact ⟨rfl, rfl⟩
          by_cases op : okP ⟨k, nn, b, t⟩ = true
          · rcases hd with ⟨qs, hq, rfl⟩ | ⟨rfl, hq⟩
            · exact .inl ⟨⟨k, nn, b, t⟩ :: qs, whole_cons wp op ep hq, by rw [List.append_assoc]; rfl⟩
            · refine .inr ⟨rfl, fun ⟨qs, hw⟩ => hq ?_⟩
              obtain ⟨q, rs, rfl, wq, oq, eq, hw2⟩ := whole_head hw h0
              rw [(same q rs wq oq eq).2]
              exact ⟨rs, hw2⟩
          · refine .inr ⟨?_, fun ⟨qs, hw⟩ => ?_⟩
            · rcases hd with ⟨qs, hq, rfl⟩ | ⟨rfl, hq⟩
              · exact fin_bad op
              · rfl
            · obtain ⟨q, rs, rfl, wq, oq, eq, hw2⟩ := whole_head hw h0
              rw [(same q rs wq oq eq).1] at oq
              exact op oq
      | false =>
        refine ⟨([], 31), Ev.step (f := fun _ => some ([], 31)) (fun j => by rw [hstep j]; rfl) (Ev.now _), .inr ⟨rfl, fun ⟨qs, hw⟩ => ?_⟩⟩
        obtain ⟨q, rs, rfl, wq, oq, eq, hw2⟩ := whole_head hw h0
        have := read_some s q (enc rs) (by omega) wq oq eq
        rw [hr] at this
        simp at this

theorem decode_ev (s : ByteArray) (hs : s.size ≤ 1048576) : ∃ r, Ev (fun k => keys_Decode.f k s) r ∧ IsDec [] s.data.toList r := by
  unfold keys_Decode.f
  exact decode_loop s.size s [] (Nat.le_refl _) hs (by simp; omega) (by simp)

end Go.Proofs.YtpimfioeeipnhaaDoor.Pl
