/-
  What the reference's Check and Encode come to: the same plain functions of lists. Condition: the list's length.
-/
import Derived.Test.YtpimfioeeipnhaaDoorSpecA
import Derived.Test.YtpimfioeeipnhaaDoorKx12
namespace Go.Proofs.YtpimfioeeipnhaaDoor.Pl
open Go.Proofs.YtpimfioeeipnhaaDoor.Hand Go.Proofs.YtpimfioeeipnhaaDoor.K Go.Lib Go.RowKit Go.Proofs.YtpimfioeeipnhaaDoorW.PrintWords Go.Proofs.YtpimfioeeipnhaaDoorW.PrintMore
set_option linter.unusedVariables false
set_option linter.unusedSimpArgs false

theorem kindX_eq (a : Int) (h0 : 0 ≤ a) (h1 : a < 18446744073709551616) : kindX a = (a % 9223372036854775808) / 4503599627370496 := by
  unfold kindX
  rw [Int.tmod_eq_emod_of_nonneg h0, Int.tdiv_eq_ediv_of_nonneg (by omega), u64_in _ (by omega) (by omega)]
theorem kindF_eq (a : Int) (h0 : 0 ≤ a) : kindF a = a % 4503599627370496 := by
  unfold kindF
  rw [Int.tmod_eq_emod_of_nonneg h0]

theorem rkind (a : Int) (h0 : 0 ≤ a) (h1 : a < 18446744073709551616) : ∃ k, rhizomeref02_Kind.f a = some k ∧ (k = 4 ↔ 9218868437227405312 < a % 9223372036854775808) := by
  unfold rhizomeref02_Kind.f
  rw [kindX_eq a h0 h1, kindF_eq a h0]
  refine ⟨_, rfl, ?_⟩
  split
  · split
    · exact ⟨fun _ => by omega, fun _ => rfl⟩
    · exact ⟨fun z => (by cases z), fun z => by omega⟩
  · split
    · exact ⟨fun z => (by cases z), fun z => by omega⟩
    · split
      · exact ⟨fun z => (by cases z), fun z => by omega⟩
      · exact ⟨fun z => (by cases z), fun z => by omega⟩

theorem rone_ok (p : Part) (w : WF p) : rhizomeref03_one.f p.f0 p.f1 p.f2 p.f3 = some (okP p) := by
  obtain ⟨k, hk, h4⟩ := rkind p.f2 w.a2 w.b2
  unfold rhizomeref03_one.f okP
  rw [toList_tx, hk, Option.getD_some]
  congr 1
  by_cases c0 : p.f0 = 0
  · rw [if_pos c0, if_pos c0]
  rw [if_neg c0, if_neg c0]
  by_cases c1 : p.f0 = 1
  · rw [if_pos c1, if_pos c1]
    by_cases e : k = 4
    · have := h4.mp e
      rw [if_pos e, decide_eq_false (by omega)]; simp
    · have f : p.f2 % 9223372036854775808 ≤ 9218868437227405312 := by
        have : ¬ 9218868437227405312 < p.f2 % 9223372036854775808 := fun z => e (h4.mpr z)
        omega
      rw [if_neg e, decide_eq_true f, Bool.and_true]
      by_cases s : p.f2 = 9223372036854775808
      · rw [if_pos s, s]; simp
      · rw [if_neg s, bne_iff_ne.mpr s, Bool.and_true]
  rw [if_neg c1, if_neg c1]
  by_cases c2 : p.f0 = 2
  · rw [if_pos c2, if_pos c2]
    by_cases s : 255 < p.f3.size
    · rw [if_pos s, decide_eq_false (by omega), Bool.and_false]
    · rw [if_neg s, decide_eq_true (by omega), Bool.and_true]
  · rw [if_neg c2, if_neg c2]

theorem rcheck_loop (l : List Part) (w : ∀ p ∈ l, WF p) (hl : l.length ≤ 4611686018427387904) : ∀ (d i : Nat), i + d = l.length →
    Ev (fun k => rhizomeref03_Check.l0 k l (i : Int)) (if (l.drop i).all okP then (if 16 < l.length then 30 else 0) else 30)
  | 0, i, h => by
    have : l.drop i = [] := by rw [List.drop_eq_nil_iff]; omega
    rw [this]
    refine Ev.step (f := fun _ => if 16 < l.length then some 30 else some 0) (fun k => ?_) ?_
    · simp only [rhizomeref03_Check.l0]; rw [if_neg (by omega)]
      by_cases c : 16 < l.length
      · rw [if_pos c, if_pos (by omega)]
      · rw [if_neg c, if_neg (by omega)]
    · rw [List.all_nil, if_pos rfl]
      by_cases c : 16 < l.length
      · simp only [if_pos c]; exact Ev.now _
      · simp only [if_neg c]; exact Ev.now _
  | d + 1, i, h => by
    have hi : i < l.length := by omega
    have e : l.drop i = l[i] :: l.drop (i + 1) := List.drop_eq_getElem_cons hi
    have wi := w _ (List.getElem_mem hi)
    have ih := rcheck_loop l w hl d (i + 1) (by omega)
    rw [e, List.all_cons]
    refine Ev.step (f := fun k => if okP l[i] = true then rhizomeref03_Check.l0 k l ((i + 1 : Nat) : Int) else some 30) (fun k => ?_) ?_
    · simp only [rhizomeref03_Check.l0]
      rw [if_pos (by omega), if_pos (by omega), rd_nat l i hi, rone_ok _ wi, Option.bind_some, wrap_succ i (by omega)]
    · by_cases c : okP l[i] = true
      · simp only [c, if_true, Bool.true_and]; exact ih
      · have c' := Bool.eq_false_iff.mpr c
        simp only [c', Bool.false_and, if_false, Bool.false_eq_true]; exact Ev.now _

theorem rcheck_ev (l : List Part) (w : ∀ p ∈ l, WF p) (hl : l.length ≤ 4611686018427387904) : Ev (fun k => rhizomeref03_Check.f k l) (chk l) := by
  unfold rhizomeref03_Check.f chk
  have := rcheck_loop l w hl l.length 0 (by omega)
  rw [List.drop_zero] at this
  by_cases h : 16 < l.length
  · rw [if_pos h]
    rw [if_pos h, ite_self] at this
    exact this
  · rw [if_neg h]
    rw [if_neg h] at this
    exact this

theorem digs_snoc (n : Nat) : ∀ j, digs (j + 1) n = digs j (n / 256) ++ [UInt8.ofNat n]
  | 0 => by simp [digs]
  | j + 1 => by
    rw [digs, digs_snoc n j, digs]
    have : n / 256 ^ (j + 1) = n / 256 / 256 ^ j := by rw [Nat.pow_succ, Nat.mul_comm, Nat.div_div_eq_div_mul]
    rw [this]
    rfl

theorem eight_loop : ∀ (j n : Nat) (tl : List UInt8), n < 18446744073709551616 → j ≤ 8 →
    Ev (fun k => rhizomeref03_eight.l0 k (n : Int) (nums (List.replicate j 0 ++ tl)) ((j : Int) - 1)) ⟨(digs j n ++ tl).toArray⟩
  | 0, n, tl, hn, _ => by
    refine Ev.step (f := fun _ => some (strOfNums (nums tl))) (fun k => ?_) (by rw [strOf_nums]; exact Ev.now _)
    simp only [rhizomeref03_eight.l0]
    rw [if_neg (by omega)]
    rfl
  | j + 1, n, tl, hn, hj => by
    have ih := eight_loop j (n / 256) (UInt8.ofNat n :: tl) (by omega) (by omega)
    have ed : digs (j + 1) n ++ tl = digs j (n / 256) ++ UInt8.ofNat n :: tl := by rw [digs_snoc, List.append_assoc]; rfl
    rw [ed]
    refine Ev.step (f := fun k => rhizomeref03_eight.l0 k ((n / 256 : Nat) : Int) (nums (List.replicate j 0 ++ UInt8.ofNat n :: tl)) ((j : Int) - 1)) (fun k => ?_) ih
    simp only [rhizomeref03_eight.l0]
    have e1 : (((j + 1 : Nat) : Int) - 1) = (j : Int) := by omega
    have e3 : wrap64 ((j : Int) - 1) = (j : Int) - 1 := by unfold wrap64; omega
    have hlen : (nums (List.replicate (j + 1) 0 ++ tl)).length = j + 1 + tl.length := by rw [nums_length, List.length_append, List.length_replicate]
    have e4 : IntKind.u64.wrap (Int.tdiv (n : Int) 256) = ((n / 256 : Nat) : Int) := by
      rw [Int.tdiv_eq_ediv_of_nonneg (by omega), u64_in _ (by omega) (by omega)]; omega
    have e5 : (Int.tmod (n : Int) 256) % 256 = ((UInt8.ofNat n).toNat : Int) := by
      rw [byte_num, Int.tmod_eq_emod_of_nonneg (by omega)]; omega
    have e6 : (nums (List.replicate (j + 1) 0 ++ tl)).set j ((UInt8.ofNat n).toNat : Int) = nums (List.replicate j 0 ++ UInt8.ofNat n :: tl) := by
      rw [List.replicate_succ', List.append_assoc, nums_append, nums_append]
      rw [List.set_append_right _ _ (by rw [nums_length, List.length_replicate]; omega)]
      rw [nums_length, List.length_replicate, Nat.sub_self, nums_append (List.replicate j 0) (UInt8.ofNat n :: tl)]
      rfl
    rw [e1, if_pos (by omega), if_pos (by omega), if_pos (by rw [hlen]; omega), e3, e4, e5, Int.toNat_natCast, e6]

theorem eight_f (n : Nat) (h : n < 18446744073709551616) : Ev (fun k => rhizomeref03_eight.f k (n : Int)) ⟨(be8 n).toArray⟩ := by
  unfold rhizomeref03_eight.f
  simp only [show (8 : Nat) ≤ 281474976710656 from by omega, show (8 : Int) ≤ 281474976710656 from by omega, if_true]
  have := eight_loop 8 n [] h (by omega)
  rw [List.append_nil, List.append_nil] at this
  exact this

theorem rkey_f (a : Int) (h0 : 0 ≤ a) (h1 : a < 18446744073709551616) (hn : a % 9223372036854775808 ≤ 9218868437227405312) : rhizomeref02_Key.f a = some ((keyN a : Int), 0) := by
  obtain ⟨k, hk, h4⟩ := rkind a h0 h1
  have : ¬ k = 4 := fun z => by have := h4.mp z; omega
  unfold rhizomeref02_Key.f rhizomeref02_Size.f keyN
  rw [hk, Option.bind_some, if_neg this, Int.tmod_eq_emod_of_nonneg h0]
  by_cases c : a < 9223372036854775808
  · rw [if_neg (by omega), if_pos c, Option.bind_some, u64_in _ (by omega) (by omega)]
    congr 2
    omega
  · rw [if_pos (by omega), if_neg c, Option.bind_some, u64_in _ (by omega) (by omega)]
    congr 2
    omega

theorem bt_nat (s : ByteArray) (i : Nat) (h : i < s.data.toList.length) : bt s (i : Int) = (s.data.toList[i].toNat : Int) := by
  have h' : i < s.size := by rw [Lib.size_eq]; exact h
  have := bt_at s (i : Int) (by simpa using h')
  rw [← this]
  rfl

theorem bytes_loop (s : ByteArray) (x y z : Int) (hs : s.size ≤ 255) : ∀ (d i : Nat) (acc : List UInt8), i + d = s.data.toList.length → acc.length ≤ 2 * i + 1 →
    Ev (fun k => rhizomeref03_bytes.l0 k (nums acc) (i : Int) x y z s) ⟨(acc ++ (esc (s.data.toList.drop i) ++ [0, 0])).toArray⟩
  | 0, i, acc, h, ha => by
    have hz := Lib.size_eq s
    have : s.data.toList.drop i = [] := by rw [List.drop_eq_nil_iff]; omega
    rw [this, esc, List.nil_append]
    refine Ev.step (f := fun _ => some (⟨(acc ++ [0, 0]).toArray⟩ : ByteArray)) (fun k => ?_) (Ev.now _)
    have e : (⟨acc.toArray⟩ : ByteArray).size = acc.length := by rw [Lib.size_eq]
    simp only [rhizomeref03_bytes.l0]
    rw [if_neg (by omega), strOf_nums, e, if_pos (by omega)]
    congr 1
  | d + 1, i, acc, h, ha => by
    have hz := Lib.size_eq s
    have hi : i < s.data.toList.length := by omega
    have e : s.data.toList.drop i = s.data.toList[i] :: s.data.toList.drop (i + 1) := List.drop_eq_getElem_cons hi
    have hb := bt_nat s i hi
    have hw := wrap_succ i (by omega)
    rw [e]
    generalize s.data.toList[i] = c at *
    by_cases hc : c = 0
    · subst hc
      have ih := bytes_loop s x y z hs d (i + 1) (acc ++ [0, 255]) (by omega) (by rw [List.length_append]; simp; omega)
      rw [esc_zero]
      have ea : acc ++ (0 :: 255 :: esc (s.data.toList.drop (i + 1)) ++ [0, 0]) = acc ++ [0, 255] ++ (esc (s.data.toList.drop (i + 1)) ++ [0, 0]) := by rw [List.append_assoc]; rfl
      rw [ea]
      refine Ev.step (f := fun k => rhizomeref03_bytes.l0 k (nums (acc ++ [0, 255])) ((i + 1 : Nat) : Int) x y z s) (fun k => ?_) ih
      simp only [rhizomeref03_bytes.l0]
      rw [if_pos (by omega), if_pos (by omega), if_pos (by rw [nums_length]; omega), Option.bind_some, hb, hw, if_pos (by rfl), if_pos (by rw [List.length_append, nums_length, List.length_singleton]; omega), nums_append, List.append_assoc]
      rfl
    · have ih := bytes_loop s x y z hs d (i + 1) (acc ++ [c]) (by omega) (by rw [List.length_append]; simp; omega)
      rw [esc_ne hc]
      have ea : acc ++ (c :: esc (s.data.toList.drop (i + 1)) ++ [0, 0]) = acc ++ [c] ++ (esc (s.data.toList.drop (i + 1)) ++ [0, 0]) := by rw [List.append_assoc]; rfl
      rw [ea]
      have hc' : ¬ (c.toNat : Int) = 0 := fun z => hc (UInt8.toNat_inj.mp (by show c.toNat = 0; omega))
      refine Ev.step (f := fun k => rhizomeref03_bytes.l0 k (nums (acc ++ [c])) ((i + 1 : Nat) : Int) x y z s) (fun k => ?_) ih
      simp only [rhizomeref03_bytes.l0]
      rw [if_pos (by omega), if_pos (by omega), if_pos (by rw [nums_length]; omega), Option.bind_some, hb, hw, if_neg hc', nums_append]
      rfl

theorem rbytes_f (p : Part) (w : WF p) (o : okP p = true) : Ev (fun k => rhizomeref03_bytes.f k p.f0 p.f1 p.f2 p.f3) ⟨(partB p).toArray⟩ := by
  unfold rhizomeref03_bytes.f
  have e8 : ∀ (c : UInt8) (n : Nat), (⟨#[c]⟩ : ByteArray) ++ (⟨(be8 n).toArray⟩ : ByteArray) = ⟨(c :: be8 n).toArray⟩ := fun c n => by
    refine of_toList_eq ?_
    rw [ByteArray.data_append, Array.toList_append]
    rfl
  have s8 : ∀ n : Nat, (⟨(be8 n).toArray⟩ : ByteArray).size = 8 := fun n => by rw [Lib.size_eq]; rfl
  rcases ok_kind o with c | c | c
  · have hb : partB p = 1 :: be8 (p.f1 + 9223372036854775808).toNat := by unfold partB; rw [if_pos c]
    have := w.a1
    have := w.b1
    have hn : IntKind.u64.wrap (9223372036854775808 + IntKind.u64.wrap p.f1) = (((p.f1 + 9223372036854775808).toNat : Nat) : Int) := by
      have e (n : Int) : IntKind.u64.wrap n = n % 18446744073709551616 := by simp [IntKind.wrap, IntKind.bits, IntKind.signed]
      rw [e, e]
      omega
    simp only [if_pos c, hn]
    refine Ev.bind (eight_f _ (by omega)) ?_
    simp only [s8, e8, hb, show 1 + 8 ≤ 9223372036854775807 from by omega, if_true]
    exact Ev.now _
  · obtain ⟨z1, z2, z3, z4⟩ := ok_num o c
    have hb : partB p = 2 :: be8 (keyN p.f2) := by unfold partB; rw [if_neg (by omega), if_pos c]
    have hk := keyN_lt p.f2 w.a2
    simp only [if_neg (show ¬ p.f0 = 0 by omega), if_pos c, rkey_f _ w.a2 w.b2 z4, Option.bind_some]
    refine Ev.bind (eight_f _ hk) ?_
    simp only [s8, e8, hb, show 1 + 8 ≤ 9223372036854775807 from by omega, if_true]
    exact Ev.now _
  · obtain ⟨z1, z2, z3⟩ := ok_text o c
    have hb : partB p = 3 :: (esc (tx p) ++ [0, 0]) := by unfold partB; rw [if_neg (by omega), if_neg (by omega)]
    simp only [if_neg (show ¬ p.f0 = 0 by omega), if_neg (show ¬ p.f0 = 1 by omega)]
    have := bytes_loop p.f3 p.f0 p.f1 p.f2 z3 p.f3.data.toList.length 0 [3] (by omega) (by simp)
    rw [List.drop_zero] at this
    rw [hb]
    exact this

theorem rencode_loop (l : List Part) (w : ∀ p ∈ l, WF p) (hl : l.length ≤ 16) (ho : ∀ p ∈ l, okP p = true) : ∀ (d i : Nat) (acc : List UInt8), i + d = l.length → acc.length ≤ 600 * i →
    Ev (fun k => rhizomeref03_Encode.l0 k l ⟨acc.toArray⟩ (i : Int)) (⟨(acc ++ enc (l.drop i)).toArray⟩, 0)
  | 0, i, acc, h, ha => by
    have : l.drop i = [] := by rw [List.drop_eq_nil_iff]; omega
    rw [this]
    exact Ev.step (f := fun _ => some ((⟨acc.toArray⟩ : ByteArray), 0)) (fun k => by simp only [rhizomeref03_Encode.l0]; rw [if_neg (by omega)]) (by simpa [enc] using Ev.now _)
  | d + 1, i, acc, h, ha => by
    have hi : i < l.length := by omega
    have e : l.drop i = l[i] :: l.drop (i + 1) := List.drop_eq_getElem_cons hi
    have wi := w _ (List.getElem_mem hi)
    have oi := ho _ (List.getElem_mem hi)
    have pl := partB_len oi
    have ih := rencode_loop l w hl ho d (i + 1) (acc ++ partB l[i]) (by omega) (by rw [List.length_append]; omega)
    have eN : enc (l.drop i) = partB l[i] ++ enc (l.drop (i + 1)) := by rw [e]; rfl
    rw [eN, ← List.append_assoc]
    have s1 : (⟨acc.toArray⟩ : ByteArray).size = acc.length := by rw [Lib.size_eq]
    have s2 : (⟨(partB l[i]).toArray⟩ : ByteArray).size = (partB l[i]).length := by rw [Lib.size_eq]
    have ea : (⟨acc.toArray⟩ : ByteArray) ++ (⟨(partB l[i]).toArray⟩ : ByteArray) = ⟨(acc ++ partB l[i]).toArray⟩ := by
      refine of_toList_eq ?_
      rw [ByteArray.data_append, Array.toList_append]
    refine Ev.step (f := fun k => (rhizomeref03_bytes.f k l[i].f0 l[i].f1 l[i].f2 l[i].f3).bind fun t => if (⟨acc.toArray⟩ : ByteArray).size + t.size ≤ 9223372036854775807 then rhizomeref03_Encode.l0 k l ((⟨acc.toArray⟩ : ByteArray) ++ t) ((i + 1 : Nat) : Int) else none) (fun k => ?_) (Ev.bind (rbytes_f _ wi oi) ?_)
    · simp only [rhizomeref03_Encode.l0]
      rw [if_pos (by omega), if_pos (by omega), rd_nat l i hi, wrap_succ i (by omega)]
    · simp only [s1, s2, ea, show acc.length + (partB l[i]).length ≤ 9223372036854775807 from by omega, if_true]
      exact ih

theorem rencode_ev (l : List Part) (w : ∀ p ∈ l, WF p) (hl : l.length ≤ 4611686018427387904) : Ev (fun k => rhizomeref03_Encode.f k l) (encR l) := by
  unfold rhizomeref03_Encode.f encR
  refine Ev.bind (rcheck_ev l w hl) ?_
  by_cases h : chk l = 0
  · rw [if_pos h]
    simp only [h, if_true]
    obtain ⟨h1, h2⟩ := chk_ok h
    have := rencode_loop l w h1 h2 l.length 0 [] (by omega) (by simp)
    rw [List.drop_zero, List.nil_append] at this
    exact this
  · rw [if_neg h]
    simp only [h, if_false]
    exact Ev.now _

end Go.Proofs.YtpimfioeeipnhaaDoor.Pl
