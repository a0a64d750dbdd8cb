/-
  What the reference's Cmp and After come to: the same plain functions of lists. Condition: the parts are a key's; the text's length.
-/
import Derived.Test.YtpimfioeeipnhaaDoorSpecC
import Derived.Test.YtpimfioeeipnhaaDoorSpecD
import Derived.Test.YtpimfioeeipnhaaDoorSpecE0
import Derived.Test.YtpimfioeeipnhaaDoorKx28
import Derived.Test.YtpimfioeeipnhaaDoorKx25
namespace Go.Proofs.YtpimfioeeipnhaaDoor.Pl
open Go.Proofs.YtpimfioeeipnhaaDoor.Hand Go.Proofs.YtpimfioeeipnhaaDoor.K Go.Lib Go.RowKit Go.Proofs.YtpimfioeeipnhaaDoorW.PrintWords Go.Proofs.YtpimfioeeipnhaaDoorW.PrintMore
set_option linter.unusedVariables false
set_option linter.unusedSimpArgs false

theorem sign_int (x y : Int) : rhizomeref03_sign.f (decide (x < y)) (decide (x > y)) = some (compareInt x y) := by
  unfold rhizomeref03_sign.f compareInt
  by_cases a : x < y
  · rw [decide_eq_true a, if_pos rfl, if_pos a]
  · rw [decide_eq_false a, if_neg (by decide), if_neg a]
    by_cases b : y < x
    · rw [decide_eq_true b, if_pos rfl, if_pos b]
    · rw [decide_eq_false b, if_neg (by decide), if_neg b]

theorem sign_bytes (a b : List UInt8) : rhizomeref03_sign.f (Op.bytesLess a b) (Op.bytesLess b a) = some (compareBytes a b) := by
  unfold rhizomeref03_sign.f
  rw [less_iff, less_iff, cmp_swap a b]
  rcases cmp_vals a b with h | h | h <;> rw [h] <;> rfl

theorem rcmp_f (a b : Int) (a0 : 0 ≤ a) (a1 : a < 18446744073709551616) (an : a % 9223372036854775808 ≤ 9218868437227405312)
    (b0 : 0 ≤ b) (b1 : b < 18446744073709551616) (bn : b % 9223372036854775808 ≤ 9218868437227405312) :
    Ev (fun k => rhizomeref02_Cmp.f k a b) (compareInt (keyN a) (keyN b), true) := by
  obtain ⟨x, hx, x4⟩ := rkind a a0 a1
  obtain ⟨y, hy, y4⟩ := rkind b b0 b1
  have nx : ¬ x = 4 := fun z => by have := x4.mp z; omega
  have ny : (y == 4) = false := beq_eq_false_iff_ne.mpr fun z => by have := y4.mp z; omega
  unfold rhizomeref02_Cmp.f
  simp only [hx, hy, Option.bind_some, if_neg nx, ny]
  have e : ∀ (u : Int), 0 ≤ u → u < 18446744073709551616 → wrap64 (u % 9223372036854775808) = u % 9223372036854775808 := fun u h0 h1 => by unfold wrap64; omega
  have e' : ∀ (u : Int), 0 ≤ u → u < 18446744073709551616 → wrap64 (-(u % 9223372036854775808)) = -(u % 9223372036854775808) := fun u h0 h1 => by unfold wrap64; omega
  have kn : ∀ (u : Int), 0 ≤ u → u < 18446744073709551616 → (if u ≥ 9223372036854775808 then -(u % 9223372036854775808) else u % 9223372036854775808) = (keyN u : Int) - 9223372036854775808 := fun u h0 h1 => by
    unfold keyN
    split <;> split <;> omega
  have ka := kn a a0 a1
  have kb := kn b b0 b1
  refine Ev.step (f := fun k => rhizomeref02_Cmp.j1 k b ((keyN a : Int) - 9223372036854775808) (b % 9223372036854775808)) (fun k => ?_) ?_
  · simp only [rhizomeref02_Cmp.j0, Bool.false_eq_true, if_false, rhizomeref02_Size.f, Option.bind_some]
    rw [Int.tmod_eq_emod_of_nonneg a0, Int.tmod_eq_emod_of_nonneg b0, e a a0 a1, e b b0 b1, e' a a0 a1, ← ka]
    by_cases c : a ≥ 9223372036854775808
    · rw [if_pos c, if_pos c]
    · rw [if_neg c, if_neg c]
  refine Ev.step (f := fun k => rhizomeref02_Cmp.j2 k ((keyN a : Int) - 9223372036854775808) ((keyN b : Int) - 9223372036854775808)) (fun k => ?_) ?_
  · simp only [rhizomeref02_Cmp.j1]
    rw [e' b b0 b1, ← kb]
    by_cases c : b ≥ 9223372036854775808
    · rw [if_pos c, if_pos c]
    · rw [if_neg c, if_neg c]
  refine Ev.step (f := fun _ => some (compareInt (keyN a) (keyN b), true)) (fun k => ?_) (Ev.now _)
  simp only [rhizomeref02_Cmp.j2]
  unfold compareInt
  by_cases c : (keyN a : Int) < (keyN b : Int)
  · rw [if_pos (by omega), if_pos c]
  · rw [if_neg (by omega), if_neg c]
    by_cases d : (keyN b : Int) < (keyN a : Int)
    · rw [if_pos (by omega), if_pos d]
    · rw [if_neg (by omega), if_neg d]

theorem rcmp_loop (a b : List Part) (wa : ∀ p ∈ a, WF p) (wb : ∀ p ∈ b, WF p) (oa : ∀ p ∈ a, okP p = true) (ob : ∀ p ∈ b, okP p = true) (ha : a.length ≤ 16) : ∀ (d i : Nat), i + d = min a.length b.length →
    Ev (fun k => rhizomeref03_Cmp.l0 k a b (i : Int)) (cmpP (a.drop i) (b.drop i))
  | 0, i, h => by
    have e : cmpP (a.drop i) (b.drop i) = compareInt a.length b.length := by
      by_cases c : i < a.length
      · rw [List.drop_eq_getElem_cons c, List.drop_eq_nil_of_le (by omega : b.length ≤ i)]
        unfold compareInt
        rw [if_neg (by omega), if_pos (by omega)]; rfl
      · rw [List.drop_eq_nil_of_le (by omega : a.length ≤ i)]
        by_cases c2 : i < b.length
        · rw [List.drop_eq_getElem_cons c2]
          unfold compareInt
          rw [if_pos (by omega)]; rfl
        · rw [List.drop_eq_nil_of_le (by omega : b.length ≤ i)]
          unfold compareInt
          rw [if_neg (by omega), if_neg (by omega)]; rfl
    rw [e]
    refine Ev.step (f := fun k => rhizomeref03_Cmp.j1 k a b (i : Int) false) (fun k => ?_) ?_
    · simp only [rhizomeref03_Cmp.l0]
      by_cases c : (i : Int) < (a.length : Int)
      · rw [if_pos c, decide_eq_false (by omega)]
      · rw [if_neg c]
    · refine Ev.step (f := fun _ => some (compareInt a.length b.length)) (fun k => ?_) (Ev.now _)
      simp only [rhizomeref03_Cmp.j1, Bool.false_eq_true, if_false]
      rw [sign_int, Option.bind_some]
  | d + 1, i, h => by
    have ia : i < a.length := by omega
    have ib : i < b.length := by omega
    have ea := List.drop_eq_getElem_cons ia
    have eb := List.drop_eq_getElem_cons ib
    have ih := rcmp_loop a b wa wb oa ob ha d (i + 1) (by omega)
    have wp := wa _ (List.getElem_mem ia); have wq := wb _ (List.getElem_mem ib)
    have op := oa _ (List.getElem_mem ia); have oq := ob _ (List.getElem_mem ib)
    have J : ∀ c : Int, Ev (fun k => rhizomeref03_Cmp.j2 k a b (i : Int) c) (if c = 0 then cmpP (a.drop (i + 1)) (b.drop (i + 1)) else c) := fun c => by
      by_cases z : c = 0
      · rw [if_pos z]
        refine Ev.step (f := fun k => rhizomeref03_Cmp.l0 k a b ((i + 1 : Nat) : Int)) (fun k => ?_) ih
        simp only [rhizomeref03_Cmp.j2]
        rw [if_pos z, wrap_succ i (by omega)]
      · rw [if_neg z]
        refine Ev.step (f := fun _ => some c) (fun k => ?_) (Ev.now _)
        simp only [rhizomeref03_Cmp.j2]
        rw [if_neg z]
    rw [ea, eb, cmpP]
    refine Ev.step (f := fun k => rhizomeref03_Cmp.j1 k a b (i : Int) true) (fun k => ?_) ?_
    · simp only [rhizomeref03_Cmp.l0]
      rw [if_pos (by omega), decide_eq_true (by omega)]
    have hp := rd_nat a i ia
    have hq := rd_nat b i ib
    by_cases k0 : a[i].f0 < b[i].f0
    · refine Ev.step (f := fun k => rhizomeref03_Cmp.j2 k a b (i : Int) (-1)) (fun k => ?_) (by rw [cmpPart_lt k0]; exact J (-1))
      simp only [rhizomeref03_Cmp.j1, if_true]
      rw [if_pos (by omega), if_pos (by omega), if_pos (by omega), hp, hq, sign_int, compareInt_lt k0, Option.bind_some, if_neg (by decide)]
    by_cases k1 : b[i].f0 < a[i].f0
    · refine Ev.step (f := fun k => rhizomeref03_Cmp.j2 k a b (i : Int) 1) (fun k => ?_) (by rw [cmpPart_gt k1]; exact J 1)
      simp only [rhizomeref03_Cmp.j1, if_true]
      rw [if_pos (by omega), if_pos (by omega), if_pos (by omega), hp, hq, sign_int, compareInt_gt k1, Option.bind_some, if_neg (by decide)]
    have hk : a[i].f0 = b[i].f0 := by omega
    rcases ok_kind op with c | c | c
    · refine Ev.step (f := fun k => rhizomeref03_Cmp.j2 k a b (i : Int) (cmpPart a[i] b[i])) (fun k => ?_) (J _)
      simp only [rhizomeref03_Cmp.j1, if_true]
      rw [if_pos (by omega), if_pos (by omega), if_pos (by omega), hp, hq, sign_int, ← hk, compareInt_self, Option.bind_some, if_pos rfl, if_pos c, sign_int, Option.bind_some, cmpPart_int c (by omega)]
    · obtain ⟨x1, x2, x3, x4⟩ := ok_num op c
      obtain ⟨y1, y2, y3, y4⟩ := ok_num oq (by omega)
      refine Ev.step (f := fun k => (rhizomeref02_Cmp.f k a[i].f2 b[i].f2).bind fun bt => rhizomeref03_Cmp.j2 k a b (i : Int) bt.1) (fun k => ?_) (Ev.bind (rcmp_f _ _ wp.a2 wp.b2 x4 wq.a2 wq.b2 y4) (by rw [cmpPart_num c (by omega)]; exact J _))
      simp only [rhizomeref03_Cmp.j1, if_true]
      rw [if_pos (by omega), if_pos (by omega), if_pos (by omega), hp, hq, sign_int, ← hk, compareInt_self, Option.bind_some, if_pos rfl, if_neg (by omega), if_pos c]
    · refine Ev.step (f := fun k => rhizomeref03_Cmp.j2 k a b (i : Int) (cmpPart a[i] b[i])) (fun k => ?_) (J _)
      simp only [rhizomeref03_Cmp.j1, if_true]
      rw [if_pos (by omega), if_pos (by omega), if_pos (by omega), hp, hq, sign_int, ← hk, compareInt_self, Option.bind_some, if_pos rfl, if_neg (by omega), if_neg (by omega), toList_tx, toList_tx, sign_bytes, Option.bind_some, cmpPart_text c (by omega)]

theorem rcmp_ev (a b : List Part) (wa : ∀ p ∈ a, WF p) (wb : ∀ p ∈ b, WF p) (ha : chk a = 0) (hb : chk b = 0) : Ev (fun k => rhizomeref03_Cmp.f k a b) (cmpP a b) := by
  unfold rhizomeref03_Cmp.f
  obtain ⟨la, oa⟩ := chk_ok ha
  obtain ⟨lb, ob⟩ := chk_ok hb
  have := rcmp_loop a b wa wb oa ob la (min a.length b.length) 0 (by omega)
  simpa using this

theorem rafter_loop (s : ByteArray) (hs : s.size ≤ 140737488355328) : ∀ (n : Nat), n ≤ s.data.toList.length → Ev (fun k => rhizomeref03_After.l0 k s (n : Int)) (aftR (s.data.toList.take n))
  | 0, h => by
    refine Ev.step (f := fun _ => some ((⟨#[]⟩ : ByteArray), false)) (fun k => ?_) (Ev.now _)
    simp only [rhizomeref03_After.l0]
    rw [if_neg (by omega)]
  | n + 1, h => by
    have hz := Lib.size_eq s
    have hn : n < s.data.toList.length := by omega
    have ih := rafter_loop s hs n (by omega)
    have et : s.data.toList.take (n + 1) = s.data.toList.take n ++ [s.data.toList[n]] := (List.take_append_getElem hn).symm
    have hb := bt_nat s n hn
    have hw : wrap64 (((n + 1 : Nat) : Int) - 1) = (n : Int) := by unfold wrap64; omega
    rw [et]
    generalize s.data.toList[n] = c at *
    by_cases c255 : c = 255
    · subst c255
      have ea : aftR (s.data.toList.take n ++ [255]) = aftR (s.data.toList.take n) := by unfold aftR; rw [aft_snoc_255]
      rw [ea]
      refine Ev.step (f := fun k => rhizomeref03_After.l0 k s (n : Int)) (fun k => ?_) ih
      simp only [rhizomeref03_After.l0]
      rw [if_pos (by omega), hw, if_pos (by omega), if_pos (by omega), hb, if_pos (by rfl)]
    · have hc' : ¬ (c.toNat : Int) = 255 := fun z => by
        have z2 : c.toNat = (255 : UInt8).toNat := by show c.toNat = 255; omega
        exact c255 (UInt8.toNat_inj.mp z2)
      have ea : aftR (s.data.toList.take n ++ [c]) = (⟨(s.data.toList.take n ++ [c + 1]).toArray⟩, true) := by unfold aftR; rw [aft_snoc _ c c255]
      rw [ea]
      refine Ev.step (f := fun _ => some ((⟨(s.data.toList.take n ++ [c + 1]).toArray⟩ : ByteArray), true)) (fun k => ?_) (Ev.now _)
      have hd : strOfNums [((c.toNat : Int) + 1) % 256] = ⟨[c + 1].toArray⟩ := by
        have : ((c.toNat : Int) + 1) % 256 = (((c + 1).toNat : Nat) : Int) := by rw [UInt8.toNat_add]; simp
        rw [this]
        exact strOf_nums [c + 1]
      have hx : (s.extract 0 n).data.toList = s.data.toList.take n := by rw [Lib.extract_data]; simp
      have hsz : (s.extract 0 n).size = n := by rw [Lib.size_eq, hx, List.length_take]; omega
      have hone : (⟨[c + 1].toArray⟩ : ByteArray).size = 1 := rfl
      simp only [rhizomeref03_After.l0]
      rw [if_pos (by omega), hw, if_pos (by omega), if_pos (by omega), hb, if_neg hc', if_pos (by omega), Option.bind_some, hd, Int.toNat_natCast, hsz, hone, if_pos (by omega)]
      congr 2
      refine of_toList_eq ?_
      rw [ByteArray.data_append, Array.toList_append, hx]

theorem rafter_f (s : ByteArray) (h : s.size ≤ 140737488355328) : Ev (fun k => rhizomeref03_After.f k s) (aftR s.data.toList) := by
  unfold rhizomeref03_After.f
  have := rafter_loop s h s.data.toList.length (Nat.le_refl _)
  rw [List.take_length] at this
  rw [Lib.size_eq s]
  exact this

end Go.Proofs.YtpimfioeeipnhaaDoor.Pl
