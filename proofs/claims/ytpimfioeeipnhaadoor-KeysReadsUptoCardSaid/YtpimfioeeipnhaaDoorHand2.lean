/-
  What four more functions that the keys' laws call come to: rhizomeref02.Size, Kind, rhizomeref03.one, keys.read (with keys.small, floats.FromKey). No condition.
-/
import Derived.Test.YtpimfioeeipnhaaDoorHand
import Derived.Test.YtpimfioeeipnhaaDoorWEqStruct
import Derived.Test.YtpimfioeeipnhaaDoorWLast
import Derived.Test.YtpimfioeeipnhaaDoorWTab
import Derived.Test.YtpimfioeeipnhaaDoorWMore
import Derived.RegionTactic
import Derived.ChangeAlike
import Derived.Deep.RegionWith
namespace Go.Proofs.YtpimfioeeipnhaaDoor.Hand
open Go.RowKit Go.Proofs.YtpimfioeeipnhaaDoorW.PrintWords Go.Proofs.YtpimfioeeipnhaaDoorW.PrintLast Go.Lib
set_option linter.unusedVariables false
set_option linter.unusedSimpArgs false

theorem eqPart (d : Nat) (w : World) (x0 y0 : Int) (x1 y1 : Int) (x2 y2 : Int) (x3 y3 : ByteArray) :
    (Op.equalIn (d + 2) 34 (.agg #[.int .i64 x0, .int .i64 x1, .int .u64 x2, .string x3]) (.agg #[.int .i64 y0, .int .i64 y1, .int .u64 y2, .string y3])).run Tryd.prog w = .ok (x0 == y0 && (x1 == y1 && (x2 == y2 && (x3.toList == y3.toList)))) w := by
  refine eqA_of Tryd.underlying34 (by kernel_rfl) ?_
  refine eqf_cons (by rfl) (by go_simp; rfl) (by go_simp; rfl) (by go_simp) ?_
  refine eqf_cons (by rfl) (by go_simp; rfl) (by go_simp; rfl) (by go_simp) ?_
  refine eqf_cons (by rfl) (by go_simp; rfl) (by go_simp; rfl) (by go_simp) ?_
  exact eqf_last (by rfl) (by go_simp; rfl) (by go_simp; rfl) (by go_simp)
attribute [local go_sem high] eqPart

def rhizomeref02_Size.f (a0 : Int) : Option Int := some (Int.tmod a0 9223372036854775808)
theorem rhizomeref02_Size.calls (a0 : Int) (r : Int) (w : World) (h : rhizomeref02_Size.f a0 = some r) :
    Calls Tryd.prog 49 #[.int .u64 a0] w fun e w' => e = .returned (.int .u64 r) ∧ Drawn0 w w' := by
  obtain rfl := Option.some.inj h
  go_enter Tryd.func49, Tryd.ntmps49
  go_wp2
  go_ret
  exact ⟨rfl, Drawn0.refl _⟩

def kindX (a : Int) : Int := IntKind.u64.wrap (Int.tdiv (Int.tmod a 9223372036854775808) 4503599627370496)
def kindF (a : Int) : Int := Int.tmod a 4503599627370496
def rhizomeref02_Kind.f (a : Int) : Option Int :=
  some (if kindX a = 2047 then (if 0 < kindF a then 4 else 3) else if 0 < kindX a then 2 else if 0 < kindF a then 1 else 0)

set_option maxHeartbeats 1000000 in
theorem rhizomeref02_Kind.calls (a0 : Int) (r : Int) (w : World) (h : rhizomeref02_Kind.f a0 = some r) :
    Calls Tryd.prog 42 #[.int .u64 a0] w fun e w' => e = .returned (.int .i64 r) ∧ Drawn0 w w' := by
  have H : Hid ((if kindX a0 = 2047 then (if 0 < kindF a0 then (4 : Int) else 3) else if 0 < kindX a0 then 2 else if 0 < kindF a0 then 1 else 0) = r) := Lib.hid (Option.some.inj h)
  clear h
  go_enter Tryd.func42, Tryd.ntmps42
  go_wp2
  all_goals (
    go_ret
    have H' := H.out
    unfold kindX kindF at H'
    (repeat' split at H') <;> first | (exfalso; simp_all; done) | (exfalso; simp_all; omega) | (subst H'; exact ⟨rfl, Drawn0.refl _⟩))

def rhizomeref03_one.f (k n b : Int) (t : ByteArray) : Option Bool :=
  some (if k = 0 then b == 0 && t.toList.isEmpty
    else if k = 1 then (if (rhizomeref02_Kind.f b).getD 0 = 4 then false else if b = 9223372036854775808 then false else n == 0 && t.toList.isEmpty)
    else if k = 2 then (if 255 < t.size then false else n == 0 && b == 0) else false)

set_option maxHeartbeats 1000000 in
theorem rhizomeref03_one.calls (a0_0 : Int) (a0_1 : Int) (a0_2 : Int) (a0_3 : ByteArray) (r : Bool) (w : World) (h : rhizomeref03_one.f a0_0 a0_1 a0_2 a0_3 = some r) :
    Calls Tryd.prog 29 #[.agg #[.int .i64 a0_0, .int .i64 a0_1, .int .u64 a0_2, .string a0_3]] w fun e w' => e = .returned (.bool r) ∧ Below w.heap.size w w' := by
  have H := Lib.hid h
  clear h
  obtain ⟨kd, hk⟩ : ∃ kd, rhizomeref02_Kind.f a0_2 = some kd := ⟨_, rfl⟩
  have HK := Lib.hid hk
  clear hk
  go_enter Tryd.func29, Tryd.ntmps29
  go_wp2_with (go_at_call 42; refine (rhizomeref02_Kind.calls _ kd _ HK.out).mono ?_; rintro e w' ⟨rfl, ⟨nd, rfl⟩⟩)
  all_goals (
    go_ret
    refine ⟨?_, by repeat (first | exact Below.refl _ _ | apply below_alloc | apply pw_below_drewN | apply below_drew1)⟩
    have H' := H.out
    have hk := HK.out
    unfold rhizomeref03_one.f at H'
    rw [hk] at H'
    simp only [Option.getD_some] at H'
    (repeat' split at H') <;> first | (exfalso; simp_all; done) | (exfalso; simp_all; omega) | (obtain rfl := Option.some.inj H'; first | rfl | (simp; done) | (simp_all; done)))

/-- The value of bytes, the highest first. -/
def beN (l : List UInt8) : Nat := l.foldl (fun n b => 256 * n + b.toNat) 0

theorem beN_snoc (l : List UInt8) (b : UInt8) : beN (l ++ [b]) = 256 * beN l + b.toNat := by simp [beN, List.foldl_append]

theorem beN_lt : ∀ (n : Nat) (l : List UInt8), l.length = n → beN l < 256 ^ n
  | 0, l, h => by
    obtain rfl := List.eq_nil_of_length_eq_zero h
    simp [beN]
  | n + 1, l, h => by
    rcases List.eq_nil_or_concat l with rfl | ⟨l', b, rfl⟩
    · simp at h
    · have hl : l'.length = n := by simpa using h
      have := beN_lt n l' hl
      have hb := b.toNat_lt
      rw [List.concat_eq_append, beN_snoc, Nat.pow_succ]
      omega

theorem take_snoc (s : ByteArray) (k : Nat) (h : k < s.size) : s.data.toList.take (k + 1) = s.data.toList.take k ++ [s[k]] := by
  rw [List.take_succ_eq_append_getElem (by simpa using h)]; rfl

def keys_small.f (s : ByteArray) : Option Int := if 8 ≤ s.size then some (beN (s.data.toList.take 8) : Nat) else none

theorem u64_in (n : Int) (h0 : 0 ≤ n) (h1 : n < 18446744073709551616) : IntKind.u64.wrap n = n := by
  have e : IntKind.u64.wrap n = n % 18446744073709551616 := by simp [IntKind.wrap, IntKind.bits, IntKind.signed]
  rw [e]
  omega

theorem or_byte (n b : Nat) (hn : n < 72057594037927936) (hb : b < 256) : Go.bits .or .u64 (IntKind.u64.wrap ((n : Int) * 256)) (b : Int) = ((256 * n + b : Nat) : Int) := by
  rw [u64_in _ (by omega) (by omega), bits_join .u64 64 (by decide) (fun n h0 h1 => u64_in n h0 (by simpa using h1)) 8 _ _ (by omega) (by omega) (by omega) (by omega) (by omega) (by omega)]
  omega

set_option maxHeartbeats 1000000 in
theorem keys_small.calls (a0 : ByteArray) (r : Int) (w : World) (h : keys_small.f a0 = some r) :
    Calls Tryd.prog 44 #[.string a0] w fun e w' => e = .returned (.int .u64 r) ∧ Drawn0 w w' := by
  unfold keys_small.f at h
  split at h
  case isFalse => cases h
  rename_i h8
  have H := Lib.hid (Option.some.inj h)
  clear h
  go_enter Tryd.func44, Tryd.ntmps44
  go_wp2
  go_loop [2, 4] (fun n i => ∃ k : Nat, k ≤ 8 ∧ i = .int .i64 k ∧ n = .int .u64 (beN (a0.data.toList.take k) : Nat)) (fun _ i => 8 - (RowKit.intOf i).toNat)
  case atStart => exact ⟨0, by omega, rfl, rfl⟩
  case round =>
    obtain ⟨k, hk, rfl, rfl⟩ := hrel
    by_cases hlt : k < 8
    · go_wp2
      go_round
      case rel =>
        have hlt' : k < a0.size := by omega
        refine ⟨k + 1, by omega, by go_num, ?_⟩
        have hb := a0[k].toNat_lt
        have hn := beN_lt k (List.take k a0.data.toList) (by rw [List.length_take, ← Lib.size_eq]; omega)
        have hn' : beN (List.take k a0.data.toList) < 72057594037927936 := Nat.lt_of_lt_of_le hn (by rw [show (72057594037927936 : Nat) = 256 ^ 7 from by decide]; exact Nat.pow_le_pow_right (by decide) (by omega))
        rw [u64_in (a0[k].toNat : Int) (by omega) (by omega), or_byte _ _ hn' (by omega), take_snoc a0 k hlt', beN_snoc]
      case measure => simp [RowKit.intOf]; omega
    · go_wp2
      go_ret
      have : k = 8 := by omega
      subst this
      exact ⟨by rw [H.out]; rfl, Drawn0.refl _⟩

theorem small_range {s : ByteArray} {n : Int} (h : keys_small.f s = some n) : 0 ≤ n ∧ n < 18446744073709551616 := by
  unfold keys_small.f at h
  split at h
  · rename_i h8
    obtain rfl := Option.some.inj h
    have := beN_lt 8 (s.data.toList.take 8) (by rw [List.length_take, ← Lib.size_eq]; omega)
    exact ⟨by omega, by have : (256 : Nat) ^ 8 = 18446744073709551616 := by decide
                        omega⟩
  · cases h

def floats_FromKey.f (a : Int) : Option (Int × Int) :=
  if 18442240474082181120 < a ∨ a < 4503599627370496 then some (0, 22)
  else if a < 9223372036854775808 then some (Go.bits .or .u64 9223372036854775808 (9223372036854775808 - a), 0)
  else some (a - 9223372036854775808, 0)

set_option maxHeartbeats 1000000 in
theorem floats_FromKey.calls (a0 : Int) (r1 r2 : Int) (w : World) (h : floats_FromKey.f a0 = some (r1, r2)) :
    Calls Tryd.prog 45 #[.int .u64 a0] w fun e w' => e = .returned (.tuple #[.int .u64 r1, .int .i64 r2]) ∧ Drawn0 w w' := by
  have H := Lib.hid h
  clear h
  go_enter Tryd.func45, Tryd.ntmps45
  go_wp2
  all_goals (
    go_ret2
    have H' := H.out
    unfold floats_FromKey.f at H'
    (repeat' split at H') <;> first | (exfalso; omega) | (exfalso; simp_all; omega) | (simp only [Option.some.injEq, Prod.mk.injEq] at H'; obtain ⟨rfl, rfl⟩ := H'; exact ⟨rfl, Drawn0.refl _⟩))

/-- What keys.read reads: the part's fields, what stands behind, whether it is one. -/
def keys_read.f (s : ByteArray) : Option (Int × Int × Int × ByteArray × ByteArray × Bool) :=
  if h : 0 < s.size then
    (if s[0].toNat = 3 then (keys_text.f (s.extract 1 s.size)).bind fun x => some ((s[0].toNat : Int) - 1, 0, 0, x.1, x.2.1, x.2.2)
     else if s.size < 9 then some ((s[0].toNat : Int) - 1, 0, 0, ⟨#[]⟩, s.extract 1 s.size, false)
     else (keys_small.f (s.extract 1 s.size)).bind fun n =>
      if s[0].toNat = 1 then some ((s[0].toNat : Int) - 1, wrap64 (IntKind.u64.wrap (n - 9223372036854775808)), 0, ⟨#[]⟩, (s.extract 1 s.size).extract 8 (s.size - 1), true)
      else if s[0].toNat = 2 then (floats_FromKey.f n).bind fun x =>
        if x.2 = 0 then some ((s[0].toNat : Int) - 1, 0, x.1, ⟨#[]⟩, (s.extract 1 s.size).extract 8 (s.size - 1), true) else some ((s[0].toNat : Int) - 1, 0, 0, ⟨#[]⟩, s.extract 1 s.size, false)
      else some ((s[0].toNat : Int) - 1, 0, 0, ⟨#[]⟩, s.extract 1 s.size, false))
  else none

theorem read_fin (tmps : Array Value) (w W : World) (c n b : Int) (t s : ByteArray) (ok : Bool)
    (hp : tmps.getD 2 undef = .pointer (some ⟨w.heap.size, 0, none⟩)) (h3 : tmps.getD 3 undef = .string s) (h4 : tmps.getD 4 undef = .bool ok)
    (hb : W.heap[w.heap.size]? = some (.cells #[.int .i64 c, .int .i64 n, .int .u64 b, .string t] 34 (0, 0))) (hB : Below w.heap.size w W) :
    bodyPost Tryd.prog Tryd.f30 (fun e w' => e = .returned (.tuple #[.agg #[.int .i64 c, .int .i64 n, .int .u64 b, .string t], .string s, .bool ok]) ∧ Below w.heap.size w w') Exit.ret { tmps := tmps, defers := [] } W := by
  refine bodyPost_ret (results_ctt (p := 2) (ty := 34) (u := 3) (v := 4) rfl _ _ w.heap.size 34 _ (0, 0) _ hp hb Tryd.underlying34 rfl (by kernel_rfl)) rfl ⟨?_, hB⟩
  rw [h3, h4]

set_option maxHeartbeats 2000000 in
theorem read_text (a0 : ByteArray) (x : ByteArray × ByteArray × Bool) (w : World) (h0 : 0 < a0.size) (hk2 : ((a0[0].toNat : Int) - 1 == 2) = true) (hx : keys_text.f (a0.extract 1 a0.size) = some x) :
    Calls Tryd.prog 30 #[.string a0] w fun e w' => e = .returned (.tuple #[.agg #[.int .i64 ((a0[0].toNat : Int) - 1), .int .i64 0, .int .u64 0, .string x.1], .string x.2.1, .bool x.2.2]) ∧ Below w.heap.size w w' := by
  have hz : (0 : Int) < (a0.size : Int) := by omega
  have hz1 : (1 : Int) ≤ (a0.size : Int) := by omega
  have hb := a0[0].toNat_lt
  have HX := Lib.hid hx
  clear hx
  go_enter Tryd.func30, Tryd.ntmps30
  go_wp2_with fail
  refine (keys_text.calls _ x.1 x.2.1 x.2.2 _ HX.out).mono ?_
  rintro e w2 ⟨rfl, HBD⟩
  have BK2 : Hid (w2.heap[w.heap.size]? = some (.cells #[.int .i64 ((a0[0].toNat : Int) - 1), .int .i64 0, .int .u64 0, .string ⟨#[]⟩] 34 (0, 0))) := Lib.hid ((HBD.block w.heap.size (by simp)).trans (heap_alloc_new w _))
  have HB2 := Lib.hid (((Below.refl w.heap.size w).alloc (Nat.le_refl _) _).trans (HBD.mono (by simp)))
  clear HBD
  have hc0 := blk_cell BK2.out 0
  have hf0 := blk_frozen BK2.out 0
  have hc1 := blk_cell BK2.out 1
  have hf1 := blk_frozen BK2.out 1
  have hc2 := blk_cell BK2.out 2
  have hf2 := blk_frozen BK2.out 2
  have hc3 := blk_cell BK2.out 3
  have hf3 := blk_frozen BK2.out 3
  simp only [List.getElem?_toArray, List.getElem?_cons_zero, List.getElem?_cons_succ] at hc0 hc1 hc2 hc3
  go_wp2_with fail
  exact read_fin _ w _ _ _ _ _ _ _ rfl rfl rfl (blk_put (blk_put (blk_put (blk_put (blk_put (BK2.out) 3 _ rfl) 0 _ rfl) 1 _ rfl) 2 _ rfl) 3 _ rfl) (by repeat (first | exact HB2.out | refine below_set ?_ (Nat.le_refl _)))

set_option maxHeartbeats 2000000 in
theorem read_short (a0 : ByteArray) (w : World) (h0 : 0 < a0.size) (hk2 : ((a0[0].toNat : Int) - 1 == 2) = false) (h8 : a0.size < 9) :
    Calls Tryd.prog 30 #[.string a0] w fun e w' => e = .returned (.tuple #[.agg #[.int .i64 ((a0[0].toNat : Int) - 1), .int .i64 0, .int .u64 0, .string ⟨#[]⟩], .string (a0.extract 1 a0.size), .bool false]) ∧ Below w.heap.size w w' := by
  have hz : (0 : Int) < (a0.size : Int) := by omega
  have hz1 : (1 : Int) ≤ (a0.size : Int) := by omega
  have hb := a0[0].toNat_lt
  have d8 : decide (((a0.size - 1 : Nat) : Int) < 8) = true := decide_eq_true (by omega)
  go_enter Tryd.func30, Tryd.ntmps30
  go_wp2_with fail
  exact read_fin _ w _ _ _ _ _ _ _ rfl rfl rfl (heap_alloc_new w _) ((Below.refl w.heap.size w).alloc (Nat.le_refl _) _)

set_option maxHeartbeats 2000000 in
theorem read_int (a0 : ByteArray) (n : Int) (w : World) (h0 : 0 < a0.size) (hk2 : ((a0[0].toNat : Int) - 1 == 2) = false) (h8 : ¬ a0.size < 9) (hk0 : ((a0[0].toNat : Int) - 1 == 0) = true) (hn : keys_small.f (a0.extract 1 a0.size) = some n) :
    Calls Tryd.prog 30 #[.string a0] w fun e w' => e = .returned (.tuple #[.agg #[.int .i64 ((a0[0].toNat : Int) - 1), .int .i64 (wrap64 (IntKind.u64.wrap (n - 9223372036854775808))), .int .u64 0, .string ⟨#[]⟩], .string ((a0.extract 1 a0.size).extract 8 (a0.size - 1)), .bool true]) ∧ Below w.heap.size w w' := by
  have hz : (0 : Int) < (a0.size : Int) := by omega
  have hz1 : (1 : Int) ≤ (a0.size : Int) := by omega
  have hb := a0[0].toNat_lt
  have d8 : decide (((a0.size - 1 : Nat) : Int) < 8) = false := decide_eq_false (by omega)
  have d9 : (8 : Int) ≤ ((a0.size - 1 : Nat) : Int) := by omega
  have HN := Lib.hid hn
  have hn0 := small_range hn
  clear hn
  go_enter Tryd.func30, Tryd.ntmps30
  go_wp2_with fail
  refine (keys_small.calls _ n _ HN.out).mono ?_
  rintro e w2 ⟨rfl, hd⟩
  have HBD := hd.below
  have BK2 : Hid (w2.heap[w.heap.size]? = some (.cells #[.int .i64 ((a0[0].toNat : Int) - 1), .int .i64 0, .int .u64 0, .string ⟨#[]⟩] 34 (0, 0))) := Lib.hid ((HBD.block w.heap.size (by simp)).trans (heap_alloc_new w _))
  have HB2 := Lib.hid (((Below.refl w.heap.size w).alloc (Nat.le_refl _) _).trans (HBD.mono (by simp)))
  clear hd HBD
  have hc0 := blk_cell BK2.out 0
  have hf0 := blk_frozen BK2.out 0
  have hc1 := blk_cell BK2.out 1
  have hf1 := blk_frozen BK2.out 1
  have hc2 := blk_cell BK2.out 2
  have hf2 := blk_frozen BK2.out 2
  have hc3 := blk_cell BK2.out 3
  have hf3 := blk_frozen BK2.out 3
  simp only [List.getElem?_toArray, List.getElem?_cons_zero, List.getElem?_cons_succ] at hc0 hc1 hc2 hc3
  go_wp2_with fail
  go_region
  all_goals (
    go_wp2_with fail
    exact read_fin _ w _ _ _ _ _ _ _ rfl rfl rfl (blk_drew (blk_put (blk_put (blk_put (blk_put (blk_put (BK2.out) 1 _ rfl) 0 _ rfl) 1 _ rfl) 2 _ rfl) 3 _ rfl)) (by repeat (first | exact HB2.out | apply below_drew1 | refine below_set ?_ (Nat.le_refl _))))

set_option maxHeartbeats 2000000 in
theorem read_num (a0 : ByteArray) (n : Int) (x : Int × Int) (w : World) (h0 : 0 < a0.size) (hk2 : ((a0[0].toNat : Int) - 1 == 2) = false) (h8 : ¬ a0.size < 9) (hk0 : ((a0[0].toNat : Int) - 1 == 0) = false) (hk1 : ((a0[0].toNat : Int) - 1 == 1) = true) (hn : keys_small.f (a0.extract 1 a0.size) = some n) (hx : floats_FromKey.f n = some x) (he : (x.2 != 0) = false) :
    Calls Tryd.prog 30 #[.string a0] w fun e w' => e = .returned (.tuple #[.agg #[.int .i64 ((a0[0].toNat : Int) - 1), .int .i64 0, .int .u64 x.1, .string ⟨#[]⟩], .string ((a0.extract 1 a0.size).extract 8 (a0.size - 1)), .bool true]) ∧ Below w.heap.size w w' := by
  have hz : (0 : Int) < (a0.size : Int) := by omega
  have hz1 : (1 : Int) ≤ (a0.size : Int) := by omega
  have hb := a0[0].toNat_lt
  have d8 : decide (((a0.size - 1 : Nat) : Int) < 8) = false := decide_eq_false (by omega)
  have d9 : (8 : Int) ≤ ((a0.size - 1 : Nat) : Int) := by omega
  have HN := Lib.hid hn
  have hn0 := small_range hn
  clear hn
  have HX := Lib.hid hx
  clear hx
  go_enter Tryd.func30, Tryd.ntmps30
  go_wp2_with fail
  refine (keys_small.calls _ n _ HN.out).mono ?_
  rintro e w2 ⟨rfl, hd⟩
  have HBD := hd.below
  have BK2 : Hid (w2.heap[w.heap.size]? = some (.cells #[.int .i64 ((a0[0].toNat : Int) - 1), .int .i64 0, .int .u64 0, .string ⟨#[]⟩] 34 (0, 0))) := Lib.hid ((HBD.block w.heap.size (by simp)).trans (heap_alloc_new w _))
  have HB2 := Lib.hid (((Below.refl w.heap.size w).alloc (Nat.le_refl _) _).trans (HBD.mono (by simp)))
  clear hd HBD
  have hc0 := blk_cell BK2.out 0
  have hf0 := blk_frozen BK2.out 0
  have hc1 := blk_cell BK2.out 1
  have hf1 := blk_frozen BK2.out 1
  have hc2 := blk_cell BK2.out 2
  have hf2 := blk_frozen BK2.out 2
  have hc3 := blk_cell BK2.out 3
  have hf3 := blk_frozen BK2.out 3
  simp only [List.getElem?_toArray, List.getElem?_cons_zero, List.getElem?_cons_succ] at hc0 hc1 hc2 hc3
  go_wp2_with fail
  refine (floats_FromKey.calls _ x.1 x.2 _ HX.out).mono ?_
  rintro e w3 ⟨rfl, hd⟩
  have HBD := hd.below
  have BK3 : Hid (w3.heap[w.heap.size]? = some (.cells #[.int .i64 ((a0[0].toNat : Int) - 1), .int .i64 0, .int .u64 0, .string ⟨#[]⟩] 34 (0, 0))) := Lib.hid (blk_below BK2.out HBD)
  have HB3 := Lib.hid (HB2.out.trans (HBD.mono HB2.out.size))
  clear hd HBD hc0 hc1 hc2 hc3 hf0 hf1 hf2 hf3
  have hc0 := blk_cell BK3.out 0
  have hf0 := blk_frozen BK3.out 0
  have hc1 := blk_cell BK3.out 1
  have hf1 := blk_frozen BK3.out 1
  have hc2 := blk_cell BK3.out 2
  have hf2 := blk_frozen BK3.out 2
  have hc3 := blk_cell BK3.out 3
  have hf3 := blk_frozen BK3.out 3
  simp only [List.getElem?_toArray, List.getElem?_cons_zero, List.getElem?_cons_succ] at hc0 hc1 hc2 hc3
  go_wp2_with fail
  go_region
  all_goals (
    go_wp2_with fail
    exact read_fin _ w _ _ _ _ _ _ _ rfl rfl rfl (blk_drew (blk_put (blk_put (blk_put (blk_put (blk_put (BK3.out) 2 _ rfl) 0 _ rfl) 1 _ rfl) 2 _ rfl) 3 _ rfl)) (by repeat (first | exact HB3.out | apply below_drew1 | refine below_set ?_ (Nat.le_refl _))))

set_option maxHeartbeats 2000000 in
theorem read_bad (a0 : ByteArray) (n : Int) (x : Int × Int) (w : World) (h0 : 0 < a0.size) (hk2 : ((a0[0].toNat : Int) - 1 == 2) = false) (h8 : ¬ a0.size < 9) (hk0 : ((a0[0].toNat : Int) - 1 == 0) = false) (hk1 : ((a0[0].toNat : Int) - 1 == 1) = true) (hn : keys_small.f (a0.extract 1 a0.size) = some n) (hx : floats_FromKey.f n = some x) (he : (x.2 != 0) = true) :
    Calls Tryd.prog 30 #[.string a0] w fun e w' => e = .returned (.tuple #[.agg #[.int .i64 ((a0[0].toNat : Int) - 1), .int .i64 0, .int .u64 0, .string ⟨#[]⟩], .string (a0.extract 1 a0.size), .bool false]) ∧ Below w.heap.size w w' := by
  have hz : (0 : Int) < (a0.size : Int) := by omega
  have hz1 : (1 : Int) ≤ (a0.size : Int) := by omega
  have hb := a0[0].toNat_lt
  have d8 : decide (((a0.size - 1 : Nat) : Int) < 8) = false := decide_eq_false (by omega)
  have d9 : (8 : Int) ≤ ((a0.size - 1 : Nat) : Int) := by omega
  have HN := Lib.hid hn
  have hn0 := small_range hn
  clear hn
  have HX := Lib.hid hx
  clear hx
  go_enter Tryd.func30, Tryd.ntmps30
  go_wp2_with fail
  refine (keys_small.calls _ n _ HN.out).mono ?_
  rintro e w2 ⟨rfl, hd⟩
  have HBD := hd.below
  have BK2 : Hid (w2.heap[w.heap.size]? = some (.cells #[.int .i64 ((a0[0].toNat : Int) - 1), .int .i64 0, .int .u64 0, .string ⟨#[]⟩] 34 (0, 0))) := Lib.hid ((HBD.block w.heap.size (by simp)).trans (heap_alloc_new w _))
  have HB2 := Lib.hid (((Below.refl w.heap.size w).alloc (Nat.le_refl _) _).trans (HBD.mono (by simp)))
  clear hd HBD
  have hc0 := blk_cell BK2.out 0
  have hf0 := blk_frozen BK2.out 0
  have hc1 := blk_cell BK2.out 1
  have hf1 := blk_frozen BK2.out 1
  have hc2 := blk_cell BK2.out 2
  have hf2 := blk_frozen BK2.out 2
  have hc3 := blk_cell BK2.out 3
  have hf3 := blk_frozen BK2.out 3
  simp only [List.getElem?_toArray, List.getElem?_cons_zero, List.getElem?_cons_succ] at hc0 hc1 hc2 hc3
  go_wp2_with fail
  refine (floats_FromKey.calls _ x.1 x.2 _ HX.out).mono ?_
  rintro e w3 ⟨rfl, hd⟩
  have HBD := hd.below
  have BK3 : Hid (w3.heap[w.heap.size]? = some (.cells #[.int .i64 ((a0[0].toNat : Int) - 1), .int .i64 0, .int .u64 0, .string ⟨#[]⟩] 34 (0, 0))) := Lib.hid (blk_below BK2.out HBD)
  have HB3 := Lib.hid (HB2.out.trans (HBD.mono HB2.out.size))
  clear hd HBD hc0 hc1 hc2 hc3 hf0 hf1 hf2 hf3
  have hc0 := blk_cell BK3.out 0
  have hf0 := blk_frozen BK3.out 0
  have hc1 := blk_cell BK3.out 1
  have hf1 := blk_frozen BK3.out 1
  have hc2 := blk_cell BK3.out 2
  have hf2 := blk_frozen BK3.out 2
  have hc3 := blk_cell BK3.out 3
  have hf3 := blk_frozen BK3.out 3
  simp only [List.getElem?_toArray, List.getElem?_cons_zero, List.getElem?_cons_succ] at hc0 hc1 hc2 hc3
  go_wp2_with fail
  exact read_fin _ w _ _ _ _ _ _ _ rfl rfl rfl (blk_put (blk_put (blk_put (blk_put (BK3.out) 0 _ rfl) 1 _ rfl) 2 _ rfl) 3 _ rfl) (by repeat (first | exact HB3.out | refine below_set ?_ (Nat.le_refl _)))

set_option maxHeartbeats 2000000 in
theorem read_else (a0 : ByteArray) (n : Int) (w : World) (h0 : 0 < a0.size) (hk2 : ((a0[0].toNat : Int) - 1 == 2) = false) (h8 : ¬ a0.size < 9) (hk0 : ((a0[0].toNat : Int) - 1 == 0) = false) (hk1 : ((a0[0].toNat : Int) - 1 == 1) = false) (hn : keys_small.f (a0.extract 1 a0.size) = some n) :
    Calls Tryd.prog 30 #[.string a0] w fun e w' => e = .returned (.tuple #[.agg #[.int .i64 ((a0[0].toNat : Int) - 1), .int .i64 0, .int .u64 0, .string ⟨#[]⟩], .string (a0.extract 1 a0.size), .bool false]) ∧ Below w.heap.size w w' := by
  have hz : (0 : Int) < (a0.size : Int) := by omega
  have hz1 : (1 : Int) ≤ (a0.size : Int) := by omega
  have hb := a0[0].toNat_lt
  have d8 : decide (((a0.size - 1 : Nat) : Int) < 8) = false := decide_eq_false (by omega)
  have d9 : (8 : Int) ≤ ((a0.size - 1 : Nat) : Int) := by omega
  have HN := Lib.hid hn
  have hn0 := small_range hn
  clear hn
  go_enter Tryd.func30, Tryd.ntmps30
  go_wp2_with fail
  refine (keys_small.calls _ n _ HN.out).mono ?_
  rintro e w2 ⟨rfl, hd⟩
  have HBD := hd.below
  have BK2 : Hid (w2.heap[w.heap.size]? = some (.cells #[.int .i64 ((a0[0].toNat : Int) - 1), .int .i64 0, .int .u64 0, .string ⟨#[]⟩] 34 (0, 0))) := Lib.hid ((HBD.block w.heap.size (by simp)).trans (heap_alloc_new w _))
  have HB2 := Lib.hid (((Below.refl w.heap.size w).alloc (Nat.le_refl _) _).trans (HBD.mono (by simp)))
  clear hd HBD
  have hc0 := blk_cell BK2.out 0
  have hf0 := blk_frozen BK2.out 0
  have hc1 := blk_cell BK2.out 1
  have hf1 := blk_frozen BK2.out 1
  have hc2 := blk_cell BK2.out 2
  have hf2 := blk_frozen BK2.out 2
  have hc3 := blk_cell BK2.out 3
  have hf3 := blk_frozen BK2.out 3
  simp only [List.getElem?_toArray, List.getElem?_cons_zero, List.getElem?_cons_succ] at hc0 hc1 hc2 hc3
  go_wp2_with fail
  exact read_fin _ w _ _ _ _ _ _ _ rfl rfl rfl (blk_put (blk_put (blk_put (blk_put (BK2.out) 0 _ rfl) 1 _ rfl) 2 _ rfl) 3 _ rfl) (by repeat (first | exact HB2.out | refine below_set ?_ (Nat.le_refl _)))

theorem keys_read.calls (a0 : ByteArray) (r1 r2 r3 : Int) (r4 r5 : ByteArray) (r6 : Bool) (w : World) (h : keys_read.f a0 = some (r1, r2, r3, r4, r5, r6)) :
    Calls Tryd.prog 30 #[.string a0] w fun e w' => e = .returned (.tuple #[.agg #[.int .i64 r1, .int .i64 r2, .int .u64 r3, .string r4], .string r5, .bool r6]) ∧ Below w.heap.size w w' := by
  unfold keys_read.f at h
  split at h
  case isFalse => cases h
  rename_i h0
  by_cases k3 : a0[0].toNat = 3
  · rw [if_pos k3] at h
    obtain ⟨x, hx, h⟩ := Option.bind_eq_some_iff.mp h
    simp only [Option.some.injEq, Prod.mk.injEq] at h
    obtain ⟨rfl, rfl, rfl, rfl, rfl, rfl⟩ := h
    exact read_text a0 x w h0 (by rw [k3]; rfl) hx
  · rw [if_neg k3] at h
    have hk2 : ((a0[0].toNat : Int) - 1 == 2) = false := beq_eq_false_iff_ne.mpr (by omega)
    by_cases h8 : a0.size < 9
    · rw [if_pos h8] at h
      simp only [Option.some.injEq, Prod.mk.injEq] at h
      obtain ⟨rfl, rfl, rfl, rfl, rfl, rfl⟩ := h
      exact read_short a0 w h0 hk2 h8
    · rw [if_neg h8] at h
      obtain ⟨n, hn, h⟩ := Option.bind_eq_some_iff.mp h
      by_cases k1 : a0[0].toNat = 1
      · rw [if_pos k1] at h
        simp only [Option.some.injEq, Prod.mk.injEq] at h
        obtain ⟨rfl, rfl, rfl, rfl, rfl, rfl⟩ := h
        exact read_int a0 n w h0 hk2 h8 (by rw [k1]; rfl) hn
      · rw [if_neg k1] at h
        have hk0 : ((a0[0].toNat : Int) - 1 == 0) = false := beq_eq_false_iff_ne.mpr (by omega)
        by_cases k2 : a0[0].toNat = 2
        · rw [if_pos k2] at h
          obtain ⟨x, hx, h⟩ := Option.bind_eq_some_iff.mp h
          by_cases hx2 : x.2 = 0
          · rw [if_pos hx2] at h
            simp only [Option.some.injEq, Prod.mk.injEq] at h
            obtain ⟨rfl, rfl, rfl, rfl, rfl, rfl⟩ := h
            exact read_num a0 n x w h0 hk2 h8 hk0 (by rw [k2]; rfl) hn hx (by rw [hx2]; rfl)
          · rw [if_neg hx2] at h
            simp only [Option.some.injEq, Prod.mk.injEq] at h
            obtain ⟨rfl, rfl, rfl, rfl, rfl, rfl⟩ := h
            exact read_bad a0 n x w h0 hk2 h8 hk0 (by rw [k2]; rfl) hn hx (bne_iff_ne.mpr hx2)
        · rw [if_neg k2] at h
          simp only [Option.some.injEq, Prod.mk.injEq] at h
          obtain ⟨rfl, rfl, rfl, rfl, rfl, rfl⟩ := h
          exact read_else a0 n w h0 hk2 h8 hk0 (beq_eq_false_iff_ne.mpr (by omega)) hn

end Go.Proofs.YtpimfioeeipnhaaDoor.Hand
