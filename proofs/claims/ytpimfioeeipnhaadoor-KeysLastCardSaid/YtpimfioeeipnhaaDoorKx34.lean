/- Contracts of the functions that a law reaches, written by a program (a changed copy of the kit's print, over contracts of our own). No condition. -/
import Derived.Test.YtpimfioeeipnhaaDoorKx0
import Derived.Test.YtpimfioeeipnhaaDoorFx
import Derived.Test.YtpimfioeeipnhaaDoorKx4
import Derived.Test.YtpimfioeeipnhaaDoorKx16
import Derived.Test.YtpimfioeeipnhaaDoorKx17
namespace Go.Proofs.YtpimfioeeipnhaaDoor.K
open Go.Proofs.YtpimfioeeipnhaaDoor.Hand
open Go.RowKit Go.Proofs.YtpimfioeeipnhaaDoorW.PrintWords Go.Proofs.YtpimfioeeipnhaaDoorW.PrintLast Go.Proofs.YtpimfioeeipnhaaDoorW.PrintMore
attribute [local go_sem] max2_int min2_int max_two min_two max_three min_three max_four min_four   -- for this text's walks alone
set_option linter.unusedVariables false
set_option linter.unusedSimpArgs false

/-! ### rhizomelaw03_KeysLast: function 10 -/
def rhizomelaw03_KeysLast.j0 : Nat → List (S34) → List (S34) → Bool → Int → Int → Int → ByteArray → Int → Int → Int → ByteArray → Option (Bool)
  | 0, _, _, _, _, _, _, _, _, _, _, _ => none
  | k + 1, x7, x8, x32, x331000, x331001, x331002, x331003, x332000, x332001, x332002, x332003 => if x32 = true then ((rhizomelaw03_fixed.f k).bind fun t359 => (some t359)) else ((keys_Cmp.f k x7 x8).bind fun t360 => ((keys_Cmp.f k (([(⟨x331000, x331001, x331002, x331003⟩ : S34)] : List (S34))) (([(⟨x332000, x332001, x332002, x332003⟩ : S34)] : List (S34)))).bind fun t367 => (some (t360 == t367))))
def rhizomelaw03_KeysLast.f (k : Nat) (l0 : List (S34)) (a1_0 : Int) (a1_1 : Int) (a1_2 : Int) (a1_3 : ByteArray) (a2_0 : Int) (a2_1 : Int) (a2_2 : Int) (a2_3 : ByteArray) : Option (Bool) := (some (([] : List (S34)) : List (S34))).bind fun y332 => (if y332.length + l0.length < 3518437208883 then ((some (y332 ++ l0 : List (S34))).bind fun y335 => ((some (([(⟨a1_0, a1_1, a1_2, a1_3⟩ : S34)] : List (S34)) : List (S34))).bind fun y338 => (if y335.length + y338.length < 3518437208883 then ((some (y335 ++ y338 : List (S34))).bind fun y341 => ((some (([] : List (S34)) : List (S34))).bind fun y344 => (if y344.length + l0.length < 3518437208883 then ((some (y344 ++ l0 : List (S34))).bind fun y347 => ((some (([(⟨a2_0, a2_1, a2_2, a2_3⟩ : S34)] : List (S34)) : List (S34))).bind fun y350 => (if y347.length + y350.length < 3518437208883 then ((some (y347 ++ y350 : List (S34))).bind fun y353 => ((rhizomelaw03_fixed.f k).bind fun t356 => (if t356 = true then ((keys_Check.f k y341).bind fun t357 => (if t357 = 0 then ((keys_Check.f k y353).bind fun t358 => (rhizomelaw03_KeysLast.j0 k y341 y353 (t358 != 0) a1_0 a1_1 a1_2 a1_3 a2_0 a2_1 a2_2 a2_3)) else (rhizomelaw03_KeysLast.j0 k y341 y353 true a1_0 a1_1 a1_2 a1_3 a2_0 a2_1 a2_2 a2_3))) else (rhizomelaw03_KeysLast.j0 k y341 y353 true a1_0 a1_1 a1_2 a1_3 a2_0 a2_1 a2_2 a2_3)))) else (none)))) else (none)))) else (none)))) else (none))
theorem rhizomelaw03_KeysLast.mono_l : ∀ k, (∀ y0 y1 y2 y3 y4 y5 y6 y7 y8 y9 y10, LeO (rhizomelaw03_KeysLast.j0 k y0 y1 y2 y3 y4 y5 y6 y7 y8 y9 y10) (rhizomelaw03_KeysLast.j0 (k + 1) y0 y1 y2 y3 y4 y5 y6 y7 y8 y9 y10))
  | 0 => fun _ _ _ _ _ _ _ _ _ _ _ r h => by simp [rhizomelaw03_KeysLast.j0] at h
  | k + 1 => by
    have ih0 := rhizomelaw03_KeysLast.mono_l k
    · intro y0 y1 y2 y3 y4 y5 y6 y7 y8 y9 y10
      unfold rhizomelaw03_KeysLast.j0
      repeat' first
      | (with_reducible exact ih0 _ _ _ _ _ _ _ _ _ _ _)
      | (with_reducible exact keys_Check.mono _ _)
      | (with_reducible exact keys_Cmp.mono _ _ _)
      | (with_reducible exact rhizomelaw03_fixed.mono _)
      | (with_reducible exact LeO.refl _)
      | (with_reducible exact LeO.none _)
      | (with_reducible refine LeO.ite ?_ ?_)
      | (with_reducible refine LeO.bind ?_ (fun _ => ?_))
      | exact ih0 _ _ _ _ _ _ _ _ _ _ _
      | exact keys_Check.mono _ _
      | exact keys_Cmp.mono _ _ _
      | exact rhizomelaw03_fixed.mono _
      | exact LeO.none _
      | refine LeO.ite ?_ ?_
      | refine LeO.bind ?_ (fun _ => ?_)
theorem rhizomelaw03_KeysLast.mono : ∀ a0 a1 a2 a3 a4 a5 a6 a7 a8 k, LeO (rhizomelaw03_KeysLast.f k a0 a1 a2 a3 a4 a5 a6 a7 a8) (rhizomelaw03_KeysLast.f (k + 1) a0 a1 a2 a3 a4 a5 a6 a7 a8) := by
  intro a0 a1 a2 a3 a4 a5 a6 a7 a8 k
  have ih0 := rhizomelaw03_KeysLast.mono_l k
  unfold rhizomelaw03_KeysLast.f
  repeat' first
      | (with_reducible exact ih0 _ _ _ _ _ _ _ _ _ _ _)
      | (with_reducible exact keys_Check.mono _ _)
      | (with_reducible exact keys_Cmp.mono _ _ _)
      | (with_reducible exact rhizomelaw03_fixed.mono _)
      | (with_reducible exact LeO.refl _)
      | (with_reducible exact LeO.none _)
      | (with_reducible refine LeO.ite ?_ ?_)
      | (with_reducible refine LeO.bind ?_ (fun _ => ?_))
      | exact ih0 _ _ _ _ _ _ _ _ _ _ _
      | exact keys_Check.mono _ _
      | exact keys_Cmp.mono _ _ _
      | exact rhizomelaw03_fixed.mono _
      | exact LeO.none _
      | refine LeO.ite ?_ ?_
      | refine LeO.bind ?_ (fun _ => ?_)
def rhizomelaw03_KeysLast.T5 : Bool × List (List Nat × List Nat) := (true, [([], []), ([], []), ([0, 1], [0, 1]), ([], []), ([3], [3]), ([], []), ([5], [5]), ([4, 6, 2], [4, 6]), ([2, 7], [2, 7]), ([8, 7, 0, 1, 2, 3, 4, 5, 6, 7, 8], [8])])
def rhizomelaw03_KeysLast.B5 : List Nat := [0, 0, 3, 0, 8, 0, 32, 127, 255, 511]
theorem rhizomelaw03_KeysLast.tab5 : rtab .any (opsOf Tryd.f10 5) = rhizomelaw03_KeysLast.T5 := by kernel_rfl
theorem rhizomelaw03_KeysLast.bits5 : waitsOk rhizomelaw03_KeysLast.T5.2 rhizomelaw03_KeysLast.B5 = true := by kernel_rfl
set_option maxHeartbeats 8000000 in
set_option maxRecDepth 100000 in
theorem rhizomelaw03_KeysLast.calls (k : Nat) (A0 : Option Addr) (c0 : Nat) (l0 : List (S34)) (a1_0 : Int) (a1_1 : Int) (a1_2 : Int) (a1_3 : ByteArray) (a2_0 : Int) (a2_1 : Int) (a2_2 : Int) (a2_3 : ByteArray) (r : Bool) (w : World) (hr0 : Kd.C k34 w A0 l0.length l0) (hc0 : l0.length ≤ c0) (h : rhizomelaw03_KeysLast.f k l0 a1_0 a1_1 a1_2 a1_3 a2_0 a2_1 a2_2 a2_3 = some r) (hr : r = true := by rfl) :
    Calls Tryd.prog 10 #[.slice A0 l0.length c0, .agg #[.int .i64 a1_0, .int .i64 a1_1, .int .u64 a1_2, .string a1_3], .agg #[.int .i64 a2_0, .int .i64 a2_1, .int .u64 a2_2, .string a2_3]] w fun e w' => e = .returned (.bool r) ∧ Below w.heap.size w w' := by
  subst hr
  have hu34 := Tryd.underlying34
  have HR0 := Aside0.mk hr0
  have HC0 := Aside0.mk hc0
  clear hr0 hc0
  have HB := Aside0.mk (Below.refl w.heap.size w)
  have H : ((some (([] : List (S34)) : List (S34))).bind fun y332 => (if y332.length + l0.length < 3518437208883 then ((some (y332 ++ l0 : List (S34))).bind fun y335 => ((some (([(⟨a1_0, a1_1, a1_2, a1_3⟩ : S34)] : List (S34)) : List (S34))).bind fun y338 => (if y335.length + y338.length < 3518437208883 then ((some (y335 ++ y338 : List (S34))).bind fun y341 => ((some (([] : List (S34)) : List (S34))).bind fun y344 => (if y344.length + l0.length < 3518437208883 then ((some (y344 ++ l0 : List (S34))).bind fun y347 => ((some (([(⟨a2_0, a2_1, a2_2, a2_3⟩ : S34)] : List (S34)) : List (S34))).bind fun y350 => (if y347.length + y350.length < 3518437208883 then ((some (y347 ++ y350 : List (S34))).bind fun y353 => ((rhizomelaw03_fixed.f k).bind fun t356 => (if t356 = true then ((keys_Check.f k y341).bind fun t357 => (if t357 = 0 then ((keys_Check.f k y353).bind fun t358 => (rhizomelaw03_KeysLast.j0 k y341 y353 (t358 != 0) a1_0 a1_1 a1_2 a1_3 a2_0 a2_1 a2_2 a2_3)) else (rhizomelaw03_KeysLast.j0 k y341 y353 true a1_0 a1_1 a1_2 a1_3 a2_0 a2_1 a2_2 a2_3))) else (rhizomelaw03_KeysLast.j0 k y341 y353 true a1_0 a1_1 a1_2 a1_3 a2_0 a2_1 a2_2 a2_3)))) else (none)))) else (none)))) else (none)))) else (none))) = some true := h
  clear h
  obtain ⟨y332, hy332⟩ : ∃ y_ : List (S34), y_ = (([] : List (S34))) := ⟨_, rfl⟩
  replace H : (if y332.length + l0.length < 3518437208883 then ((some (y332 ++ l0 : List (S34))).bind fun y335 => ((some (([(⟨a1_0, a1_1, a1_2, a1_3⟩ : S34)] : List (S34)) : List (S34))).bind fun y338 => (if y335.length + y338.length < 3518437208883 then ((some (y335 ++ y338 : List (S34))).bind fun y341 => ((some (([] : List (S34)) : List (S34))).bind fun y344 => (if y344.length + l0.length < 3518437208883 then ((some (y344 ++ l0 : List (S34))).bind fun y347 => ((some (([(⟨a2_0, a2_1, a2_2, a2_3⟩ : S34)] : List (S34)) : List (S34))).bind fun y350 => (if y347.length + y350.length < 3518437208883 then ((some (y347 ++ y350 : List (S34))).bind fun y353 => ((rhizomelaw03_fixed.f k).bind fun t356 => (if t356 = true then ((keys_Check.f k y341).bind fun t357 => (if t357 = 0 then ((keys_Check.f k y353).bind fun t358 => (rhizomelaw03_KeysLast.j0 k y341 y353 (t358 != 0) a1_0 a1_1 a1_2 a1_3 a2_0 a2_1 a2_2 a2_3)) else (rhizomelaw03_KeysLast.j0 k y341 y353 true a1_0 a1_1 a1_2 a1_3 a2_0 a2_1 a2_2 a2_3))) else (rhizomelaw03_KeysLast.j0 k y341 y353 true a1_0 a1_1 a1_2 a1_3 a2_0 a2_1 a2_2 a2_3)))) else (none)))) else (none)))) else (none)))) else (none)) = some true := by first | (rw [hy332]; with_reducible exact H) | (have H2_ := (Option.bind_some _ _).symm.trans H; rw [hy332]; with_reducible exact H2_) | (have H2_ := (Option.bind_some _ _).symm.trans H; with_reducible exact H2_) | with_reducible exact H | (rw [hy332]; exact H) | exact H
  have Ny332 := Aside0.mk hy332
  clear hy332
  by_cases c4 : y332.length + l0.length < 3518437208883
  · rw [if_pos c4] at H
    have LMc4 := Aside0.mk c4
    clear c4
    obtain ⟨y335, hy335⟩ : ∃ y_ : List (S34), y_ = (y332 ++ l0) := ⟨_, rfl⟩
    replace H : ((some (([(⟨a1_0, a1_1, a1_2, a1_3⟩ : S34)] : List (S34)) : List (S34))).bind fun y338 => (if y335.length + y338.length < 3518437208883 then ((some (y335 ++ y338 : List (S34))).bind fun y341 => ((some (([] : List (S34)) : List (S34))).bind fun y344 => (if y344.length + l0.length < 3518437208883 then ((some (y344 ++ l0 : List (S34))).bind fun y347 => ((some (([(⟨a2_0, a2_1, a2_2, a2_3⟩ : S34)] : List (S34)) : List (S34))).bind fun y350 => (if y347.length + y350.length < 3518437208883 then ((some (y347 ++ y350 : List (S34))).bind fun y353 => ((rhizomelaw03_fixed.f k).bind fun t356 => (if t356 = true then ((keys_Check.f k y341).bind fun t357 => (if t357 = 0 then ((keys_Check.f k y353).bind fun t358 => (rhizomelaw03_KeysLast.j0 k y341 y353 (t358 != 0) a1_0 a1_1 a1_2 a1_3 a2_0 a2_1 a2_2 a2_3)) else (rhizomelaw03_KeysLast.j0 k y341 y353 true a1_0 a1_1 a1_2 a1_3 a2_0 a2_1 a2_2 a2_3))) else (rhizomelaw03_KeysLast.j0 k y341 y353 true a1_0 a1_1 a1_2 a1_3 a2_0 a2_1 a2_2 a2_3)))) else (none)))) else (none)))) else (none))) = some true := by first | (rw [hy335]; with_reducible exact H) | (have H2_ := (Option.bind_some _ _).symm.trans H; rw [hy335]; with_reducible exact H2_) | (have H2_ := (Option.bind_some _ _).symm.trans H; with_reducible exact H2_) | with_reducible exact H | (rw [hy335]; exact H) | exact H
    have Ny335 := Aside0.mk hy335
    clear hy335
    obtain ⟨y338, hy338⟩ : ∃ y_ : List (S34), y_ = (([(⟨a1_0, a1_1, a1_2, a1_3⟩ : S34)] : List (S34))) := ⟨_, rfl⟩
    replace H : (if y335.length + y338.length < 3518437208883 then ((some (y335 ++ y338 : List (S34))).bind fun y341 => ((some (([] : List (S34)) : List (S34))).bind fun y344 => (if y344.length + l0.length < 3518437208883 then ((some (y344 ++ l0 : List (S34))).bind fun y347 => ((some (([(⟨a2_0, a2_1, a2_2, a2_3⟩ : S34)] : List (S34)) : List (S34))).bind fun y350 => (if y347.length + y350.length < 3518437208883 then ((some (y347 ++ y350 : List (S34))).bind fun y353 => ((rhizomelaw03_fixed.f k).bind fun t356 => (if t356 = true then ((keys_Check.f k y341).bind fun t357 => (if t357 = 0 then ((keys_Check.f k y353).bind fun t358 => (rhizomelaw03_KeysLast.j0 k y341 y353 (t358 != 0) a1_0 a1_1 a1_2 a1_3 a2_0 a2_1 a2_2 a2_3)) else (rhizomelaw03_KeysLast.j0 k y341 y353 true a1_0 a1_1 a1_2 a1_3 a2_0 a2_1 a2_2 a2_3))) else (rhizomelaw03_KeysLast.j0 k y341 y353 true a1_0 a1_1 a1_2 a1_3 a2_0 a2_1 a2_2 a2_3)))) else (none)))) else (none)))) else (none)) = some true := by first | (rw [hy338]; with_reducible exact H) | (have H2_ := (Option.bind_some _ _).symm.trans H; rw [hy338]; with_reducible exact H2_) | (have H2_ := (Option.bind_some _ _).symm.trans H; with_reducible exact H2_) | with_reducible exact H | (rw [hy338]; exact H) | exact H
    have Ny338 := Aside0.mk hy338
    clear hy338
    by_cases c5 : y335.length + y338.length < 3518437208883
    · rw [if_pos c5] at H
      have LMc5 := Aside0.mk c5
      clear c5
      obtain ⟨y341, hy341⟩ : ∃ y_ : List (S34), y_ = (y335 ++ y338) := ⟨_, rfl⟩
      replace H : ((some (([] : List (S34)) : List (S34))).bind fun y344 => (if y344.length + l0.length < 3518437208883 then ((some (y344 ++ l0 : List (S34))).bind fun y347 => ((some (([(⟨a2_0, a2_1, a2_2, a2_3⟩ : S34)] : List (S34)) : List (S34))).bind fun y350 => (if y347.length + y350.length < 3518437208883 then ((some (y347 ++ y350 : List (S34))).bind fun y353 => ((rhizomelaw03_fixed.f k).bind fun t356 => (if t356 = true then ((keys_Check.f k y341).bind fun t357 => (if t357 = 0 then ((keys_Check.f k y353).bind fun t358 => (rhizomelaw03_KeysLast.j0 k y341 y353 (t358 != 0) a1_0 a1_1 a1_2 a1_3 a2_0 a2_1 a2_2 a2_3)) else (rhizomelaw03_KeysLast.j0 k y341 y353 true a1_0 a1_1 a1_2 a1_3 a2_0 a2_1 a2_2 a2_3))) else (rhizomelaw03_KeysLast.j0 k y341 y353 true a1_0 a1_1 a1_2 a1_3 a2_0 a2_1 a2_2 a2_3)))) else (none)))) else (none))) = some true := by first | (rw [hy341]; with_reducible exact H) | (have H2_ := (Option.bind_some _ _).symm.trans H; rw [hy341]; with_reducible exact H2_) | (have H2_ := (Option.bind_some _ _).symm.trans H; with_reducible exact H2_) | with_reducible exact H | (rw [hy341]; exact H) | exact H
      have Ny341 := Aside0.mk hy341
      clear hy341
      obtain ⟨y344, hy344⟩ : ∃ y_ : List (S34), y_ = (([] : List (S34))) := ⟨_, rfl⟩
      replace H : (if y344.length + l0.length < 3518437208883 then ((some (y344 ++ l0 : List (S34))).bind fun y347 => ((some (([(⟨a2_0, a2_1, a2_2, a2_3⟩ : S34)] : List (S34)) : List (S34))).bind fun y350 => (if y347.length + y350.length < 3518437208883 then ((some (y347 ++ y350 : List (S34))).bind fun y353 => ((rhizomelaw03_fixed.f k).bind fun t356 => (if t356 = true then ((keys_Check.f k y341).bind fun t357 => (if t357 = 0 then ((keys_Check.f k y353).bind fun t358 => (rhizomelaw03_KeysLast.j0 k y341 y353 (t358 != 0) a1_0 a1_1 a1_2 a1_3 a2_0 a2_1 a2_2 a2_3)) else (rhizomelaw03_KeysLast.j0 k y341 y353 true a1_0 a1_1 a1_2 a1_3 a2_0 a2_1 a2_2 a2_3))) else (rhizomelaw03_KeysLast.j0 k y341 y353 true a1_0 a1_1 a1_2 a1_3 a2_0 a2_1 a2_2 a2_3)))) else (none)))) else (none)) = some true := by first | (rw [hy344]; with_reducible exact H) | (have H2_ := (Option.bind_some _ _).symm.trans H; rw [hy344]; with_reducible exact H2_) | (have H2_ := (Option.bind_some _ _).symm.trans H; with_reducible exact H2_) | with_reducible exact H | (rw [hy344]; exact H) | exact H
      have Ny344 := Aside0.mk hy344
      clear hy344
      by_cases c6 : y344.length + l0.length < 3518437208883
      · rw [if_pos c6] at H
        have LMc6 := Aside0.mk c6
        clear c6
        obtain ⟨y347, hy347⟩ : ∃ y_ : List (S34), y_ = (y344 ++ l0) := ⟨_, rfl⟩
        replace H : ((some (([(⟨a2_0, a2_1, a2_2, a2_3⟩ : S34)] : List (S34)) : List (S34))).bind fun y350 => (if y347.length + y350.length < 3518437208883 then ((some (y347 ++ y350 : List (S34))).bind fun y353 => ((rhizomelaw03_fixed.f k).bind fun t356 => (if t356 = true then ((keys_Check.f k y341).bind fun t357 => (if t357 = 0 then ((keys_Check.f k y353).bind fun t358 => (rhizomelaw03_KeysLast.j0 k y341 y353 (t358 != 0) a1_0 a1_1 a1_2 a1_3 a2_0 a2_1 a2_2 a2_3)) else (rhizomelaw03_KeysLast.j0 k y341 y353 true a1_0 a1_1 a1_2 a1_3 a2_0 a2_1 a2_2 a2_3))) else (rhizomelaw03_KeysLast.j0 k y341 y353 true a1_0 a1_1 a1_2 a1_3 a2_0 a2_1 a2_2 a2_3)))) else (none))) = some true := by first | (rw [hy347]; with_reducible exact H) | (have H2_ := (Option.bind_some _ _).symm.trans H; rw [hy347]; with_reducible exact H2_) | (have H2_ := (Option.bind_some _ _).symm.trans H; with_reducible exact H2_) | with_reducible exact H | (rw [hy347]; exact H) | exact H
        have Ny347 := Aside0.mk hy347
        clear hy347
        obtain ⟨y350, hy350⟩ : ∃ y_ : List (S34), y_ = (([(⟨a2_0, a2_1, a2_2, a2_3⟩ : S34)] : List (S34))) := ⟨_, rfl⟩
        replace H : (if y347.length + y350.length < 3518437208883 then ((some (y347 ++ y350 : List (S34))).bind fun y353 => ((rhizomelaw03_fixed.f k).bind fun t356 => (if t356 = true then ((keys_Check.f k y341).bind fun t357 => (if t357 = 0 then ((keys_Check.f k y353).bind fun t358 => (rhizomelaw03_KeysLast.j0 k y341 y353 (t358 != 0) a1_0 a1_1 a1_2 a1_3 a2_0 a2_1 a2_2 a2_3)) else (rhizomelaw03_KeysLast.j0 k y341 y353 true a1_0 a1_1 a1_2 a1_3 a2_0 a2_1 a2_2 a2_3))) else (rhizomelaw03_KeysLast.j0 k y341 y353 true a1_0 a1_1 a1_2 a1_3 a2_0 a2_1 a2_2 a2_3)))) else (none)) = some true := by first | (rw [hy350]; with_reducible exact H) | (have H2_ := (Option.bind_some _ _).symm.trans H; rw [hy350]; with_reducible exact H2_) | (have H2_ := (Option.bind_some _ _).symm.trans H; with_reducible exact H2_) | with_reducible exact H | (rw [hy350]; exact H) | exact H
        have Ny350 := Aside0.mk hy350
        clear hy350
        by_cases c7 : y347.length + y350.length < 3518437208883
        · rw [if_pos c7] at H
          have LMc7 := Aside0.mk c7
          clear c7
          obtain ⟨y353, hy353⟩ : ∃ y_ : List (S34), y_ = (y347 ++ y350) := ⟨_, rfl⟩
          replace H : ((rhizomelaw03_fixed.f k).bind fun t356 => (if t356 = true then ((keys_Check.f k y341).bind fun t357 => (if t357 = 0 then ((keys_Check.f k y353).bind fun t358 => (rhizomelaw03_KeysLast.j0 k y341 y353 (t358 != 0) a1_0 a1_1 a1_2 a1_3 a2_0 a2_1 a2_2 a2_3)) else (rhizomelaw03_KeysLast.j0 k y341 y353 true a1_0 a1_1 a1_2 a1_3 a2_0 a2_1 a2_2 a2_3))) else (rhizomelaw03_KeysLast.j0 k y341 y353 true a1_0 a1_1 a1_2 a1_3 a2_0 a2_1 a2_2 a2_3))) = some true := by first | (rw [hy353]; with_reducible exact H) | (have H2_ := (Option.bind_some _ _).symm.trans H; rw [hy353]; with_reducible exact H2_) | (have H2_ := (Option.bind_some _ _).symm.trans H; with_reducible exact H2_) | with_reducible exact H | (rw [hy353]; exact H) | exact H
          have Ny353 := Aside0.mk hy353
          clear hy353
          have HC8 := Aside0.mk H
          clear H
          go_enter Tryd.func10, Tryd.ntmps10
          try go_wp2_with (first | ((with_reducible refine gate_dst (N := 4) rfl ?_); refine box_event ?hg (N := 4) ?hd (cs := #[.int .i64 a1_0, .int .i64 a1_1, .int .u64 a1_2, .string a1_3]) (t := 34) ?hr ?_; (case hd => rfl); (case hg => rfl); (case hr => first | (go_simp; done) | (go_simp; rfl)); intro gb330 hg w9 hbox hb; have n0_ := Aside0.mk (below_step (by repeat (first | (with_reducible first | exact HB.out | apply below_alloc | apply pw_below_drewN | apply below_drew1) | exact HB.out)) hb); have n1_ := Aside0.mk (hbox); have n2_ := Aside0.mk ((by rw [hg]; exact (below_size (by repeat (first | (with_reducible first | exact HB.out | apply below_alloc | apply pw_below_drewN | apply below_drew1) | exact HB.out))) : w.heap.size ≤ gb330)); have n3_ := Aside0.mk ((by rw [hg]; exact (below_size (by repeat (first | (with_reducible first | exact HB.out | apply below_alloc | apply pw_below_drewN | apply below_drew1) | exact HB.out))) : w.heap.size ≤ gb330)); clear HB; have HB := n0_; have BK330 := n1_; have GW330 := n2_; have GE330 := n3_; clear n0_ n1_ n2_ n3_; clear hb hbox hg) | ((with_reducible refine gate_dst (N := 5) rfl ?_); refine box_event ?hg (N := 5) ?hd (cs := #[.int .i64 a2_0, .int .i64 a2_1, .int .u64 a2_2, .string a2_3]) (t := 34) ?hr ?_; (case hd => rfl); (case hg => rfl); (case hr => first | (go_simp; done) | (go_simp; rfl)); intro gb331 hg w10 hbox hb; have n0_ := Aside0.mk (blk_below (g := gb330) (o := .cells #[.int .i64 a1_0, .int .i64 a1_1, .int .u64 a1_2, .string a1_3] 34 (0, 0)) (by (with_reducible repeat (first | refine blk_drewN ?_ _ | refine blk_drew ?_ | refine blk_alloc ?_ _)); exact BK330.out) hb); have n1_ := Aside0.mk (below_step (by repeat (first | (with_reducible first | exact HB.out | apply below_alloc | apply pw_below_drewN | apply below_drew1 | refine below_set ?_ GE330.out) | exact HB.out)) hb); have n2_ := Aside0.mk (hbox); have n3_ := Aside0.mk ((by rw [hg]; exact (below_size (by repeat (first | (with_reducible first | exact HB.out | apply below_alloc | apply pw_below_drewN | apply below_drew1 | refine below_set ?_ GE330.out) | exact HB.out))) : w.heap.size ≤ gb331)); have n4_ := Aside0.mk ((by rw [hg]; exact (below_size (by repeat (first | (with_reducible first | exact HB.out | apply below_alloc | apply pw_below_drewN | apply below_drew1 | refine below_set ?_ GE330.out) | exact HB.out))) : w.heap.size ≤ gb331)); have n5_ := Aside0.mk ((by rw [hg]; exact Nat.ne_of_lt (blk_lt (g := gb330) (o := .cells #[.int .i64 a1_0, .int .i64 a1_1, .int .u64 a1_2, .string a1_3] 34 (0, 0)) (by (with_reducible repeat (first | refine blk_drewN ?_ _ | refine blk_drew ?_ | refine blk_alloc ?_ _)); exact BK330.out)) : gb330 ≠ gb331)); have n6_ := Aside0.mk ((by rw [hg]; exact Nat.ne_of_gt (blk_lt (g := gb330) (o := .cells #[.int .i64 a1_0, .int .i64 a1_1, .int .u64 a1_2, .string a1_3] 34 (0, 0)) (by (with_reducible repeat (first | refine blk_drewN ?_ _ | refine blk_drew ?_ | refine blk_alloc ?_ _)); exact BK330.out)) : gb331 ≠ gb330)); clear BK330; clear HB; have BK330 := n0_; have HB := n1_; have BK331 := n2_; have GW331 := n3_; have GE331 := n4_; have NB330_331 := n5_; have NB331_330 := n6_; clear n0_ n1_ n2_ n3_ n4_ n5_ n6_; clear hb hbox hg))
          have n0_ := Aside0.mk (blk_drew BK330.out)
          have n1_ := Aside0.mk (blk_drew BK331.out)
          have n2_ := Aside0.mk (below_drew1 HB.out)
          clear BK330
          clear BK331
          clear HB
          have BK330 := n0_
          have BK331 := n1_
          have HB := n2_
          clear n0_ n1_ n2_
          refine start_ (n := 7) (S := fun w' => w'.cell? ⟨gb330, 0, none⟩ = some (.int .i64 a1_0) ∧ w'.cell? ⟨gb330, 1, none⟩ = some (.int .i64 a1_1) ∧ w'.cell? ⟨gb330, 2, none⟩ = some (.int .u64 a1_2) ∧ w'.cell? ⟨gb330, 3, none⟩ = some (.string a1_3)) (ds := []) #[false, false, false, false, false, false, false] (by kernel_rfl) rfl rfl ⟨(blk_cell BK330.out 0).trans rfl, (blk_cell BK330.out 1).trans rfl, (blk_cell BK330.out 2).trans rfl, (blk_cell BK330.out 3).trans rfl⟩ (fun hHeld => ?_)
          generalize w10.drew = w11 at BK330 BK331 HB hHeld ⊢
          refine pure_ (i := 1) (N := some 10) (v := ?_) (a' := ?_) #[false, true, false, false, false, false, false] rfl rfl (by kernel_rfl) (fun _ _ _ h => h) (Or.inl ⟨by rfl, ?_⟩) ?_ ?_
          rotate_left
          · intro w'
            go_simp
            with_reducible rfl
          rotate_left
          · simp only [Act.put, List.setIfInBounds_toArray, List.set_cons_zero, List.set_cons_succ, i64_w, i32_w]
            rfl
          refine take_ (i := 3) (N := some 12) (v := ?_) (a' := ?_) #[false, true, false, true, false, false, false] rfl rfl (by kernel_rfl) (fun _ _ _ h => h) (Or.inl ⟨by rfl, ?_⟩) hHeld ?_ ?_
          rotate_left
          · rintro w' ⟨s0, s1, s2, s3⟩
            go_simp
            with_reducible rfl
          rotate_left
          · simp only [Act.put, List.setIfInBounds_toArray, List.set_cons_zero, List.set_cons_succ, i64_w, i32_w]
            rfl
          refine join_ (σ := Value × Value × Value) 2 #[true, true, true, true, true, false, false] (fun s_ => [(9, s_.1), (11, s_.2.1), (13, s_.2.2)]) (fun s_ w' => (w'.cell? ⟨gb330, 0, none⟩ = some (.int .i64 a1_0) ∧ w'.cell? ⟨gb330, 1, none⟩ = some (.int .i64 a1_1) ∧ w'.cell? ⟨gb330, 2, none⟩ = some (.int .u64 a1_2) ∧ w'.cell? ⟨gb330, 3, none⟩ = some (.string a1_3)) ∧ (Kd.R k34 34 w' w.heap.size (fun k_ => some k_ ≠ (s_.2.2 : Value).ownBlock ∧ k_ ≠ gb330 ∧ k_ ≠ gb331) s_.2.1 y335) ∧ (Kd.R k34 34 w' w.heap.size (fun k_ => some k_ ≠ (s_.2.1 : Value).ownBlock ∧ k_ ≠ gb330 ∧ k_ ≠ gb331) s_.2.2 y338) ∧ (w'.heap[gb330]? = some (.cells #[.int .i64 a1_0, .int .i64 a1_1, .int .u64 a1_2, .string a1_3] 34 (0, 0))) ∧ (w'.heap[gb331]? = some (.cells #[.int .i64 a2_0, .int .i64 a2_1, .int .u64 a2_2, .string a2_3] 34 (0, 0))) ∧ (Below w.heap.size w w')) ?_ ?_
          rotate_left
          · intro hCont
            refine two_ (i := 0) (j := 4) (Ni := some 9) (Nj := some 13) #[true, true, false, true, false, false, false] #[false, true, false, true, true, false, false] rfl rfl rfl rfl (by kernel_rfl) (by decide) (by decide) (fun K hK => ?_) (fun K hK => ?_)
            · skip
              refine Kd.R_lit_step k34 _ 34 ?hg (N := 9) ?hd (xs := ([] : List (S34))) (inner := []) (ok := fun _ => True) (okp := fun _ => True) ?hr ?hp (fun _ hk => hk) trivial (Below.refl _ _) (Nat.le_refl _) (by simp) ?_; (case hd => rfl); (case hg => rfl); (case hr => first | (go_simp; done) | (go_simp; rfl)); (case hp => exact (Reps.none _ _))
              intro v333 w12 ho13 hb hg_ hnew_
              clear hg_ hnew_
              (first | rw [← Ny332.out] at ho13 | (simp only [Int.reduceToNat] at ho13; rw [← Ny332.out] at ho13))
              have n0_ := Aside0.mk (Kd.R_lower (Kd.R_newB (Kd.R_newB ho13 (g := gb330) (o := .cells #[.int .i64 a1_0, .int .i64 a1_1, .int .u64 a1_2, .string a1_3] 34 (0, 0)) (by (with_reducible repeat (first | refine blk_drewN ?_ _ | refine blk_drew ?_ | refine blk_alloc ?_ _)); exact BK330.out)) (g := gb331) (o := .cells #[.int .i64 a2_0, .int .i64 a2_1, .int .u64 a2_2, .string a2_3] 34 (0, 0)) (by (with_reducible repeat (first | refine blk_drewN ?_ _ | refine blk_drew ?_ | refine blk_alloc ?_ _)); exact BK331.out)) (below_size (by repeat (first | (with_reducible first | exact HB.out | apply below_alloc | apply pw_below_drewN | apply below_drew1 | refine below_set ?_ GE330.out | refine below_set ?_ GE331.out) | exact HB.out))))
              have n1_ := Aside0.mk (blk_below (g := gb330) (o := .cells #[.int .i64 a1_0, .int .i64 a1_1, .int .u64 a1_2, .string a1_3] 34 (0, 0)) (by (with_reducible repeat (first | refine blk_drewN ?_ _ | refine blk_drew ?_ | refine blk_alloc ?_ _)); exact BK330.out) hb)
              have n2_ := Aside0.mk (blk_below (g := gb331) (o := .cells #[.int .i64 a2_0, .int .i64 a2_1, .int .u64 a2_2, .string a2_3] 34 (0, 0)) (by (with_reducible repeat (first | refine blk_drewN ?_ _ | refine blk_drew ?_ | refine blk_alloc ?_ _)); exact BK331.out) hb)
              have n3_ := Aside0.mk (below_step (by repeat (first | (with_reducible first | exact HB.out | apply below_alloc | apply pw_below_drewN | apply below_drew1 | refine below_set ?_ GE330.out | refine below_set ?_ GE331.out) | exact HB.out)) hb)
              clear BK330
              clear BK331
              clear HB
              have HO334 := n0_
              have BK330 := n1_
              have BK331 := n2_
              have HB := n3_
              clear n0_ n1_ n2_ n3_
              clear hb ho13
              refine hK.out _ _ ⟨(blk_cell BK330.out 0).trans rfl, (blk_cell BK330.out 1).trans rfl, (blk_cell BK330.out 2).trans rfl, (blk_cell BK330.out 3).trans rfl⟩ (fun hHeld => ?_)
              clear hK K
              refine norm_ (a' := ?_) ?_ ?_
              rotate_left
              · show Act.put _ (some 9) _ = _
                simp only [Act.put, List.setIfInBounds_toArray, List.set_cons_zero, List.set_cons_succ, i64_w, i32_w]
                rfl
              refine two_ (i := 2) (j := 4) (Ni := some 11) (Nj := some 13) #[true, true, true, true, false, false, false] #[true, true, false, true, true, false, false] rfl rfl rfl rfl (by kernel_rfl) (by decide) (by decide) (fun K hK => ?_) (fun K hK => ?_)
              · skip
                refine Kd.R_append_rows_step k34 (w0 := w) w.heap.size (by rfl) (.tmp 9) (.tmp 10) 22 34 (.agg #[(.int .i64 0), (.int .i64 0), (.int .u64 0), (.string ⟨#[]⟩)]) 40 rfl Tryd.underlying22 info34 rfl (by decide) (by omega) v333 y332 l0 _ _ _ (fun k_ => k_ ≠ gb330 ∧ k_ ≠ gb331) (fun _ => False) rfl rfl ?aO ?aR (fun _ _ h => h) (fun _ h => h.elim) ?aF ?aB ?aS ?aL ?_
                (case aR => repeat (first | exact (Kd.C_below HR0.out HB.out) | (with_reducible refine Kd.C_alloc ?_ _) | (with_reducible refine Kd.C_drewN ?_ _) | (with_reducible refine Kd.C_drew ?_)))
                (case aB => exact (by repeat (first | (with_reducible first | exact HB.out | apply below_alloc | apply pw_below_drewN | apply below_drew1 | refine below_set ?_ GE330.out | refine below_set ?_ GE331.out) | exact HB.out)))
                (case aF => exact (fun k_ hk => ⟨Kd.freshB (g := gb330) (o := .cells #[.int .i64 a1_0, .int .i64 a1_1, .int .u64 a1_2, .string a1_3] 34 (0, 0)) (by (with_reducible repeat (first | refine blk_drewN ?_ _ | refine blk_drew ?_ | refine blk_alloc ?_ _)); exact BK330.out) k_ hk, Kd.freshB (g := gb331) (o := .cells #[.int .i64 a2_0, .int .i64 a2_1, .int .u64 a2_2, .string a2_3] 34 (0, 0)) (by (with_reducible repeat (first | refine blk_drewN ?_ _ | refine blk_drew ?_ | refine blk_alloc ?_ _)); exact BK331.out) k_ hk⟩))
                (case aO => exact (by (with_reducible repeat (first | apply Kd.R_alloc | apply Kd.R_drewN | apply Kd.R_drew)); exact Kd.R_mono HO334.out (fun _ hk => ⟨hk.1.2, hk.2⟩)))
                (case aS => exact (below_size (by repeat (first | (with_reducible first | exact HB.out | apply below_alloc | apply pw_below_drewN | apply below_drew1 | refine below_set ?_ GE330.out | refine below_set ?_ GE331.out) | exact HB.out))))
                (case aL => have := LMc4.out; omega)
                intro v336 w14 ho hb hg hat
                rw [← Ny335.out] at ho
                have n0_ := Aside0.mk (blk_grown (g := gb330) (o := .cells #[.int .i64 a1_0, .int .i64 a1_1, .int .u64 a1_2, .string a1_3] 34 (0, 0)) (by (with_reducible repeat (first | refine blk_drewN ?_ _ | refine blk_drew ?_ | refine blk_alloc ?_ _)); exact BK330.out) hg (Kd.R_away HO334.out (fun _ hk => hk.1.2)))
                have n1_ := Aside0.mk (blk_grown (g := gb331) (o := .cells #[.int .i64 a2_0, .int .i64 a2_1, .int .u64 a2_2, .string a2_3] 34 (0, 0)) (by (with_reducible repeat (first | refine blk_drewN ?_ _ | refine blk_drew ?_ | refine blk_alloc ?_ _)); exact BK331.out) hg (Kd.R_away HO334.out (fun _ hk => hk.2)))
                have n2_ := Aside0.mk (hb)
                have n3_ := Aside0.mk (ho)
                clear BK330
                clear BK331
                clear HB
                clear HO334
                have BK330 := n0_
                have BK331 := n1_
                have HB := n2_
                have HO337 := n3_
                clear n0_ n1_ n2_ n3_
                clear ho hb hg hat
                refine hK.out _ _ ⟨(blk_cell BK330.out 0).trans rfl, (blk_cell BK330.out 1).trans rfl, (blk_cell BK330.out 2).trans rfl, (blk_cell BK330.out 3).trans rfl⟩ (fun hHeld => ?_)
                clear hK K
                refine norm_ (a' := ?_) ?_ ?_
                rotate_left
                · show Act.put _ (some 11) _ = _
                  simp only [Act.put, List.setIfInBounds_toArray, List.set_cons_zero, List.set_cons_succ, i64_w, i32_w]
                  rfl
                refine one_ (i := 4) (N := some 13) #[true, true, true, true, true, false, false] rfl rfl (by kernel_rfl) (by decide) (fun K hK => ?_)
                refine Kd.R_lit_step k34 _ 34 ?hg (N := 13) ?hd (xs := ([(⟨a1_0, a1_1, a1_2, a1_3⟩ : S34)] : List (S34))) (inner := [.int .i64 a1_0, .int .i64 a1_1, .int .u64 a1_2, .string a1_3]) (ok := fun _ => True) (okp := fun _ => True) ?hr ?hp (fun _ hk => hk) trivial (Below.refl _ _) (Nat.le_refl _) (by simp) ?_; (case hd => rfl); (case hg => rfl); (case hr => first | (go_simp; done) | (go_simp; rfl)); (case hp => exact (Reps.c4 (show Kd.M k34 _ _ _ (⟨a1_0, a1_1, a1_2, a1_3⟩ : S34) [.int .i64 a1_0, .int .i64 a1_1, .int .u64 a1_2, .string a1_3] from (k34_mkM _ _ _ (⟨a1_0, a1_1, a1_2, a1_3⟩ : S34) )) (Reps.none _ _)))
                intro v339 w15 ho16 hb hg_ hnew_
                clear hg_ hnew_
                (first | rw [← Ny338.out] at ho16 | (simp only [Int.reduceToNat] at ho16; rw [← Ny338.out] at ho16))
                have n0_ := Aside0.mk (Kd.R_elder' (by (with_reducible repeat (first | apply Kd.R_alloc | apply Kd.R_drewN | apply Kd.R_drew)); exact HO337.out) (Kd.R_base ho16) hb)
                have n1_ := Aside0.mk (Kd.R_lower (Kd.R_newB (Kd.R_newB (Kd.R_new' ho16 (Kd.R_lt (by (with_reducible repeat (first | apply Kd.R_alloc | apply Kd.R_drewN | apply Kd.R_drew)); exact HO337.out))) (g := gb330) (o := .cells #[.int .i64 a1_0, .int .i64 a1_1, .int .u64 a1_2, .string a1_3] 34 (0, 0)) (by (with_reducible repeat (first | refine blk_drewN ?_ _ | refine blk_drew ?_ | refine blk_alloc ?_ _)); exact BK330.out)) (g := gb331) (o := .cells #[.int .i64 a2_0, .int .i64 a2_1, .int .u64 a2_2, .string a2_3] 34 (0, 0)) (by (with_reducible repeat (first | refine blk_drewN ?_ _ | refine blk_drew ?_ | refine blk_alloc ?_ _)); exact BK331.out)) (below_size (by repeat (first | (with_reducible first | exact HB.out | apply below_alloc | apply pw_below_drewN | apply below_drew1 | refine below_set ?_ GE330.out | refine below_set ?_ GE331.out) | exact HB.out))))
                have n2_ := Aside0.mk (blk_below (g := gb330) (o := .cells #[.int .i64 a1_0, .int .i64 a1_1, .int .u64 a1_2, .string a1_3] 34 (0, 0)) (by (with_reducible repeat (first | refine blk_drewN ?_ _ | refine blk_drew ?_ | refine blk_alloc ?_ _)); exact BK330.out) hb)
                have n3_ := Aside0.mk (blk_below (g := gb331) (o := .cells #[.int .i64 a2_0, .int .i64 a2_1, .int .u64 a2_2, .string a2_3] 34 (0, 0)) (by (with_reducible repeat (first | refine blk_drewN ?_ _ | refine blk_drew ?_ | refine blk_alloc ?_ _)); exact BK331.out) hb)
                have n4_ := Aside0.mk (below_step (by repeat (first | (with_reducible first | exact HB.out | apply below_alloc | apply pw_below_drewN | apply below_drew1 | refine below_set ?_ GE330.out | refine below_set ?_ GE331.out) | exact HB.out)) hb)
                clear HO337
                clear BK330
                clear BK331
                clear HB
                have HO337 := n0_
                have HO340 := n1_
                have BK330 := n2_
                have BK331 := n3_
                have HB := n4_
                clear n0_ n1_ n2_ n3_ n4_
                clear hb ho16
                refine hK.out _ _ ⟨(blk_cell BK330.out 0).trans rfl, (blk_cell BK330.out 1).trans rfl, (blk_cell BK330.out 2).trans rfl, (blk_cell BK330.out 3).trans rfl⟩ (fun hHeld => ?_)
                clear hK K
                refine norm_ (a' := ?_) ?_ ?_
                rotate_left
                · show Act.put _ (some 13) _ = _
                  simp only [Act.put, List.setIfInBounds_toArray, List.set_cons_zero, List.set_cons_succ, i64_w, i32_w]
                  rfl
                exact norm_ (by simp only [putAll, Act.put, List.setIfInBounds_toArray, List.set_cons_zero, List.set_cons_succ]) (hCont (v333, v336, v339) _ ⟨hHeld, (by (with_reducible repeat (first | apply Kd.R_alloc | apply Kd.R_drewN | apply Kd.R_drew)); exact Kd.R_mono HO337.out (fun _ hk => ⟨hk.2, ⟨hk.1.1, hk.1.2⟩⟩)), (by (with_reducible repeat (first | apply Kd.R_alloc | apply Kd.R_drewN | apply Kd.R_drew)); exact Kd.R_mono HO340.out (fun _ hk => ⟨hk.1.1.2, ⟨hk.1.2, hk.2⟩⟩)), (by (with_reducible repeat (first | refine blk_drewN ?_ _ | refine blk_drew ?_ | refine blk_alloc ?_ _)); exact BK330.out), (by (with_reducible repeat (first | refine blk_drewN ?_ _ | refine blk_drew ?_ | refine blk_alloc ?_ _)); exact BK331.out), (by repeat (first | (with_reducible first | exact HB.out | apply below_alloc | apply pw_below_drewN | apply below_drew1 | refine below_set ?_ GE330.out | refine below_set ?_ GE331.out) | exact HB.out))⟩)
              · skip
                refine Kd.R_lit_step k34 _ 34 ?hg (N := 13) ?hd (xs := ([(⟨a1_0, a1_1, a1_2, a1_3⟩ : S34)] : List (S34))) (inner := [.int .i64 a1_0, .int .i64 a1_1, .int .u64 a1_2, .string a1_3]) (ok := fun _ => True) (okp := fun _ => True) ?hr ?hp (fun _ hk => hk) trivial (Below.refl _ _) (Nat.le_refl _) (by simp) ?_; (case hd => rfl); (case hg => rfl); (case hr => first | (go_simp; done) | (go_simp; rfl)); (case hp => exact (Reps.c4 (show Kd.M k34 _ _ _ (⟨a1_0, a1_1, a1_2, a1_3⟩ : S34) [.int .i64 a1_0, .int .i64 a1_1, .int .u64 a1_2, .string a1_3] from (k34_mkM _ _ _ (⟨a1_0, a1_1, a1_2, a1_3⟩ : S34) )) (Reps.none _ _)))
                intro v339 w14 ho15 hb hg_ hnew_
                clear hg_ hnew_
                (first | rw [← Ny338.out] at ho15 | (simp only [Int.reduceToNat] at ho15; rw [← Ny338.out] at ho15))
                have n0_ := Aside0.mk (Kd.R_elder' (by (with_reducible repeat (first | apply Kd.R_alloc | apply Kd.R_drewN | apply Kd.R_drew)); exact HO334.out) (Kd.R_base ho15) hb)
                have n1_ := Aside0.mk (Kd.R_lower (Kd.R_newB (Kd.R_newB (Kd.R_new' ho15 (Kd.R_lt (by (with_reducible repeat (first | apply Kd.R_alloc | apply Kd.R_drewN | apply Kd.R_drew)); exact HO334.out))) (g := gb330) (o := .cells #[.int .i64 a1_0, .int .i64 a1_1, .int .u64 a1_2, .string a1_3] 34 (0, 0)) (by (with_reducible repeat (first | refine blk_drewN ?_ _ | refine blk_drew ?_ | refine blk_alloc ?_ _)); exact BK330.out)) (g := gb331) (o := .cells #[.int .i64 a2_0, .int .i64 a2_1, .int .u64 a2_2, .string a2_3] 34 (0, 0)) (by (with_reducible repeat (first | refine blk_drewN ?_ _ | refine blk_drew ?_ | refine blk_alloc ?_ _)); exact BK331.out)) (below_size (by repeat (first | (with_reducible first | exact HB.out | apply below_alloc | apply pw_below_drewN | apply below_drew1 | refine below_set ?_ GE330.out | refine below_set ?_ GE331.out) | exact HB.out))))
                have n2_ := Aside0.mk (blk_below (g := gb330) (o := .cells #[.int .i64 a1_0, .int .i64 a1_1, .int .u64 a1_2, .string a1_3] 34 (0, 0)) (by (with_reducible repeat (first | refine blk_drewN ?_ _ | refine blk_drew ?_ | refine blk_alloc ?_ _)); exact BK330.out) hb)
                have n3_ := Aside0.mk (blk_below (g := gb331) (o := .cells #[.int .i64 a2_0, .int .i64 a2_1, .int .u64 a2_2, .string a2_3] 34 (0, 0)) (by (with_reducible repeat (first | refine blk_drewN ?_ _ | refine blk_drew ?_ | refine blk_alloc ?_ _)); exact BK331.out) hb)
                have n4_ := Aside0.mk (below_step (by repeat (first | (with_reducible first | exact HB.out | apply below_alloc | apply pw_below_drewN | apply below_drew1 | refine below_set ?_ GE330.out | refine below_set ?_ GE331.out) | exact HB.out)) hb)
                clear HO334
                clear BK330
                clear BK331
                clear HB
                have HO334 := n0_
                have HO340 := n1_
                have BK330 := n2_
                have BK331 := n3_
                have HB := n4_
                clear n0_ n1_ n2_ n3_ n4_
                clear hb ho15
                refine hK.out _ _ ⟨(blk_cell BK330.out 0).trans rfl, (blk_cell BK330.out 1).trans rfl, (blk_cell BK330.out 2).trans rfl, (blk_cell BK330.out 3).trans rfl⟩ (fun hHeld => ?_)
                clear hK K
                refine norm_ (a' := ?_) ?_ ?_
                rotate_left
                · show Act.put _ (some 13) _ = _
                  simp only [Act.put, List.setIfInBounds_toArray, List.set_cons_zero, List.set_cons_succ, i64_w, i32_w]
                  rfl
                refine one_ (i := 2) (N := some 11) #[true, true, true, true, true, false, false] rfl rfl (by kernel_rfl) (by decide) (fun K hK => ?_)
                refine Kd.R_append_rows_step k34 (w0 := w) w.heap.size (by rfl) (.tmp 9) (.tmp 10) 22 34 (.agg #[(.int .i64 0), (.int .i64 0), (.int .u64 0), (.string ⟨#[]⟩)]) 40 rfl Tryd.underlying22 info34 rfl (by decide) (by omega) v333 y332 l0 _ _ _ (fun k_ => some k_ ≠ (v339 : Value).ownBlock ∧ k_ ≠ gb330 ∧ k_ ≠ gb331) (fun _ => False) rfl rfl ?aO ?aR (fun _ _ h => h) (fun _ h => h.elim) ?aF ?aB ?aS ?aL ?_
                (case aR => repeat (first | exact (Kd.C_below HR0.out HB.out) | (with_reducible refine Kd.C_alloc ?_ _) | (with_reducible refine Kd.C_drewN ?_ _) | (with_reducible refine Kd.C_drew ?_)))
                (case aB => exact (by repeat (first | (with_reducible first | exact HB.out | apply below_alloc | apply pw_below_drewN | apply below_drew1 | refine below_set ?_ GE330.out | refine below_set ?_ GE331.out) | exact HB.out)))
                (case aF => exact (fun k_ hk => ⟨Kd.fresh' (Kd.R_lt (by (with_reducible repeat (first | apply Kd.R_alloc | apply Kd.R_drewN | apply Kd.R_drew)); exact HO340.out)) k_ hk, Kd.freshB (g := gb330) (o := .cells #[.int .i64 a1_0, .int .i64 a1_1, .int .u64 a1_2, .string a1_3] 34 (0, 0)) (by (with_reducible repeat (first | refine blk_drewN ?_ _ | refine blk_drew ?_ | refine blk_alloc ?_ _)); exact BK330.out) k_ hk, Kd.freshB (g := gb331) (o := .cells #[.int .i64 a2_0, .int .i64 a2_1, .int .u64 a2_2, .string a2_3] 34 (0, 0)) (by (with_reducible repeat (first | refine blk_drewN ?_ _ | refine blk_drew ?_ | refine blk_alloc ?_ _)); exact BK331.out) k_ hk⟩))
                (case aO => exact (by (with_reducible repeat (first | apply Kd.R_alloc | apply Kd.R_drewN | apply Kd.R_drew)); exact Kd.R_mono HO334.out (fun _ hk => ⟨hk.2, ⟨hk.1.1.2, hk.1.2⟩⟩)))
                (case aS => exact (below_size (by repeat (first | (with_reducible first | exact HB.out | apply below_alloc | apply pw_below_drewN | apply below_drew1 | refine below_set ?_ GE330.out | refine below_set ?_ GE331.out) | exact HB.out))))
                (case aL => have := LMc4.out; omega)
                intro v336 w16 ho hb hg hat
                rw [← Ny335.out] at ho
                have n0_ := Aside0.mk (blk_grown (g := gb330) (o := .cells #[.int .i64 a1_0, .int .i64 a1_1, .int .u64 a1_2, .string a1_3] 34 (0, 0)) (by (with_reducible repeat (first | refine blk_drewN ?_ _ | refine blk_drew ?_ | refine blk_alloc ?_ _)); exact BK330.out) hg (Kd.R_away HO334.out (fun _ hk => hk.1.1.2)))
                have n1_ := Aside0.mk (blk_grown (g := gb331) (o := .cells #[.int .i64 a2_0, .int .i64 a2_1, .int .u64 a2_2, .string a2_3] 34 (0, 0)) (by (with_reducible repeat (first | refine blk_drewN ?_ _ | refine blk_drew ?_ | refine blk_alloc ?_ _)); exact BK331.out) hg (Kd.R_away HO334.out (fun _ hk => hk.1.2)))
                have n2_ := Aside0.mk (Kd.R_after (ok := (fun k_ => k_ ≠ gb330 ∧ k_ ≠ gb331)) (by (with_reducible repeat (first | apply Kd.R_alloc | apply Kd.R_drewN | apply Kd.R_drew)); exact Kd.R_mono HO340.out (fun _ hk => ⟨⟨hk.1.2, hk.2⟩, hk.1.1.2⟩)) hg hat)
                have n3_ := Aside0.mk (hb)
                have n4_ := Aside0.mk (ho)
                clear BK330
                clear BK331
                clear HO340
                clear HB
                clear HO334
                have BK330 := n0_
                have BK331 := n1_
                have HO340 := n2_
                have HB := n3_
                have HO337 := n4_
                clear n0_ n1_ n2_ n3_ n4_
                clear ho hb hg hat
                refine hK.out _ _ ⟨(blk_cell BK330.out 0).trans rfl, (blk_cell BK330.out 1).trans rfl, (blk_cell BK330.out 2).trans rfl, (blk_cell BK330.out 3).trans rfl⟩ (fun hHeld => ?_)
                clear hK K
                refine norm_ (a' := ?_) ?_ ?_
                rotate_left
                · show Act.put _ (some 11) _ = _
                  simp only [Act.put, List.setIfInBounds_toArray, List.set_cons_zero, List.set_cons_succ, i64_w, i32_w]
                  rfl
                exact norm_ (by simp only [putAll, Act.put, List.setIfInBounds_toArray, List.set_cons_zero, List.set_cons_succ]) (hCont (v333, v336, v339) _ ⟨hHeld, (by (with_reducible repeat (first | apply Kd.R_alloc | apply Kd.R_drewN | apply Kd.R_drew)); exact HO337.out), (by (with_reducible repeat (first | apply Kd.R_alloc | apply Kd.R_drewN | apply Kd.R_drew)); exact Kd.R_mono HO340.out (fun _ hk => ⟨hk.2, ⟨hk.1.1, hk.1.2⟩⟩)), (by (with_reducible repeat (first | refine blk_drewN ?_ _ | refine blk_drew ?_ | refine blk_alloc ?_ _)); exact BK330.out), (by (with_reducible repeat (first | refine blk_drewN ?_ _ | refine blk_drew ?_ | refine blk_alloc ?_ _)); exact BK331.out), (by repeat (first | (with_reducible first | exact HB.out | apply below_alloc | apply pw_below_drewN | apply below_drew1 | refine below_set ?_ GE330.out | refine below_set ?_ GE331.out) | exact HB.out))⟩)
            · skip
              refine Kd.R_lit_step k34 _ 34 ?hg (N := 13) ?hd (xs := ([(⟨a1_0, a1_1, a1_2, a1_3⟩ : S34)] : List (S34))) (inner := [.int .i64 a1_0, .int .i64 a1_1, .int .u64 a1_2, .string a1_3]) (ok := fun _ => True) (okp := fun _ => True) ?hr ?hp (fun _ hk => hk) trivial (Below.refl _ _) (Nat.le_refl _) (by simp) ?_; (case hd => rfl); (case hg => rfl); (case hr => first | (go_simp; done) | (go_simp; rfl)); (case hp => exact (Reps.c4 (show Kd.M k34 _ _ _ (⟨a1_0, a1_1, a1_2, a1_3⟩ : S34) [.int .i64 a1_0, .int .i64 a1_1, .int .u64 a1_2, .string a1_3] from (k34_mkM _ _ _ (⟨a1_0, a1_1, a1_2, a1_3⟩ : S34) )) (Reps.none _ _)))
              intro v339 w12 ho13 hb hg_ hnew_
              clear hg_ hnew_
              (first | rw [← Ny338.out] at ho13 | (simp only [Int.reduceToNat] at ho13; rw [← Ny338.out] at ho13))
              have n0_ := Aside0.mk (Kd.R_lower (Kd.R_newB (Kd.R_newB ho13 (g := gb330) (o := .cells #[.int .i64 a1_0, .int .i64 a1_1, .int .u64 a1_2, .string a1_3] 34 (0, 0)) (by (with_reducible repeat (first | refine blk_drewN ?_ _ | refine blk_drew ?_ | refine blk_alloc ?_ _)); exact BK330.out)) (g := gb331) (o := .cells #[.int .i64 a2_0, .int .i64 a2_1, .int .u64 a2_2, .string a2_3] 34 (0, 0)) (by (with_reducible repeat (first | refine blk_drewN ?_ _ | refine blk_drew ?_ | refine blk_alloc ?_ _)); exact BK331.out)) (below_size (by repeat (first | (with_reducible first | exact HB.out | apply below_alloc | apply pw_below_drewN | apply below_drew1 | refine below_set ?_ GE330.out | refine below_set ?_ GE331.out) | exact HB.out))))
              have n1_ := Aside0.mk (blk_below (g := gb330) (o := .cells #[.int .i64 a1_0, .int .i64 a1_1, .int .u64 a1_2, .string a1_3] 34 (0, 0)) (by (with_reducible repeat (first | refine blk_drewN ?_ _ | refine blk_drew ?_ | refine blk_alloc ?_ _)); exact BK330.out) hb)
              have n2_ := Aside0.mk (blk_below (g := gb331) (o := .cells #[.int .i64 a2_0, .int .i64 a2_1, .int .u64 a2_2, .string a2_3] 34 (0, 0)) (by (with_reducible repeat (first | refine blk_drewN ?_ _ | refine blk_drew ?_ | refine blk_alloc ?_ _)); exact BK331.out) hb)
              have n3_ := Aside0.mk (below_step (by repeat (first | (with_reducible first | exact HB.out | apply below_alloc | apply pw_below_drewN | apply below_drew1 | refine below_set ?_ GE330.out | refine below_set ?_ GE331.out) | exact HB.out)) hb)
              clear BK330
              clear BK331
              clear HB
              have HO340 := n0_
              have BK330 := n1_
              have BK331 := n2_
              have HB := n3_
              clear n0_ n1_ n2_ n3_
              clear hb ho13
              refine hK.out _ _ ⟨(blk_cell BK330.out 0).trans rfl, (blk_cell BK330.out 1).trans rfl, (blk_cell BK330.out 2).trans rfl, (blk_cell BK330.out 3).trans rfl⟩ (fun hHeld => ?_)
              clear hK K
              refine norm_ (a' := ?_) ?_ ?_
              rotate_left
              · show Act.put _ (some 13) _ = _
                simp only [Act.put, List.setIfInBounds_toArray, List.set_cons_zero, List.set_cons_succ, i64_w, i32_w]
                rfl
              refine one_ (i := 0) (N := some 9) #[true, true, false, true, true, false, false] rfl rfl (by kernel_rfl) (by decide) (fun K hK => ?_)
              refine Kd.R_lit_step k34 _ 34 ?hg (N := 9) ?hd (xs := ([] : List (S34))) (inner := []) (ok := fun _ => True) (okp := fun _ => True) ?hr ?hp (fun _ hk => hk) trivial (Below.refl _ _) (Nat.le_refl _) (by simp) ?_; (case hd => rfl); (case hg => rfl); (case hr => first | (go_simp; done) | (go_simp; rfl)); (case hp => exact (Reps.none _ _))
              intro v333 w14 ho15 hb hg_ hnew_
              clear hg_ hnew_
              (first | rw [← Ny332.out] at ho15 | (simp only [Int.reduceToNat] at ho15; rw [← Ny332.out] at ho15))
              have n0_ := Aside0.mk (Kd.R_elder' (by (with_reducible repeat (first | apply Kd.R_alloc | apply Kd.R_drewN | apply Kd.R_drew)); exact HO340.out) (Kd.R_base ho15) hb)
              have n1_ := Aside0.mk (Kd.R_lower (Kd.R_newB (Kd.R_newB (Kd.R_new' ho15 (Kd.R_lt (by (with_reducible repeat (first | apply Kd.R_alloc | apply Kd.R_drewN | apply Kd.R_drew)); exact HO340.out))) (g := gb330) (o := .cells #[.int .i64 a1_0, .int .i64 a1_1, .int .u64 a1_2, .string a1_3] 34 (0, 0)) (by (with_reducible repeat (first | refine blk_drewN ?_ _ | refine blk_drew ?_ | refine blk_alloc ?_ _)); exact BK330.out)) (g := gb331) (o := .cells #[.int .i64 a2_0, .int .i64 a2_1, .int .u64 a2_2, .string a2_3] 34 (0, 0)) (by (with_reducible repeat (first | refine blk_drewN ?_ _ | refine blk_drew ?_ | refine blk_alloc ?_ _)); exact BK331.out)) (below_size (by repeat (first | (with_reducible first | exact HB.out | apply below_alloc | apply pw_below_drewN | apply below_drew1 | refine below_set ?_ GE330.out | refine below_set ?_ GE331.out) | exact HB.out))))
              have n2_ := Aside0.mk (blk_below (g := gb330) (o := .cells #[.int .i64 a1_0, .int .i64 a1_1, .int .u64 a1_2, .string a1_3] 34 (0, 0)) (by (with_reducible repeat (first | refine blk_drewN ?_ _ | refine blk_drew ?_ | refine blk_alloc ?_ _)); exact BK330.out) hb)
              have n3_ := Aside0.mk (blk_below (g := gb331) (o := .cells #[.int .i64 a2_0, .int .i64 a2_1, .int .u64 a2_2, .string a2_3] 34 (0, 0)) (by (with_reducible repeat (first | refine blk_drewN ?_ _ | refine blk_drew ?_ | refine blk_alloc ?_ _)); exact BK331.out) hb)
              have n4_ := Aside0.mk (below_step (by repeat (first | (with_reducible first | exact HB.out | apply below_alloc | apply pw_below_drewN | apply below_drew1 | refine below_set ?_ GE330.out | refine below_set ?_ GE331.out) | exact HB.out)) hb)
              clear HO340
              clear BK330
              clear BK331
              clear HB
              have HO340 := n0_
              have HO334 := n1_
              have BK330 := n2_
              have BK331 := n3_
              have HB := n4_
              clear n0_ n1_ n2_ n3_ n4_
              clear hb ho15
              refine hK.out _ _ ⟨(blk_cell BK330.out 0).trans rfl, (blk_cell BK330.out 1).trans rfl, (blk_cell BK330.out 2).trans rfl, (blk_cell BK330.out 3).trans rfl⟩ (fun hHeld => ?_)
              clear hK K
              refine norm_ (a' := ?_) ?_ ?_
              rotate_left
              · show Act.put _ (some 9) _ = _
                simp only [Act.put, List.setIfInBounds_toArray, List.set_cons_zero, List.set_cons_succ, i64_w, i32_w]
                rfl
              refine one_ (i := 2) (N := some 11) #[true, true, true, true, true, false, false] rfl rfl (by kernel_rfl) (by decide) (fun K hK => ?_)
              refine Kd.R_append_rows_step k34 (w0 := w) w.heap.size (by rfl) (.tmp 9) (.tmp 10) 22 34 (.agg #[(.int .i64 0), (.int .i64 0), (.int .u64 0), (.string ⟨#[]⟩)]) 40 rfl Tryd.underlying22 info34 rfl (by decide) (by omega) v333 y332 l0 _ _ _ (fun k_ => some k_ ≠ (v339 : Value).ownBlock ∧ k_ ≠ gb330 ∧ k_ ≠ gb331) (fun _ => False) rfl rfl ?aO ?aR (fun _ _ h => h) (fun _ h => h.elim) ?aF ?aB ?aS ?aL ?_
              (case aR => repeat (first | exact (Kd.C_below HR0.out HB.out) | (with_reducible refine Kd.C_alloc ?_ _) | (with_reducible refine Kd.C_drewN ?_ _) | (with_reducible refine Kd.C_drew ?_)))
              (case aB => exact (by repeat (first | (with_reducible first | exact HB.out | apply below_alloc | apply pw_below_drewN | apply below_drew1 | refine below_set ?_ GE330.out | refine below_set ?_ GE331.out) | exact HB.out)))
              (case aF => exact (fun k_ hk => ⟨Kd.fresh' (Kd.R_lt (by (with_reducible repeat (first | apply Kd.R_alloc | apply Kd.R_drewN | apply Kd.R_drew)); exact HO340.out)) k_ hk, Kd.freshB (g := gb330) (o := .cells #[.int .i64 a1_0, .int .i64 a1_1, .int .u64 a1_2, .string a1_3] 34 (0, 0)) (by (with_reducible repeat (first | refine blk_drewN ?_ _ | refine blk_drew ?_ | refine blk_alloc ?_ _)); exact BK330.out) k_ hk, Kd.freshB (g := gb331) (o := .cells #[.int .i64 a2_0, .int .i64 a2_1, .int .u64 a2_2, .string a2_3] 34 (0, 0)) (by (with_reducible repeat (first | refine blk_drewN ?_ _ | refine blk_drew ?_ | refine blk_alloc ?_ _)); exact BK331.out) k_ hk⟩))
              (case aO => exact (by (with_reducible repeat (first | apply Kd.R_alloc | apply Kd.R_drewN | apply Kd.R_drew)); exact Kd.R_mono HO334.out (fun _ hk => ⟨hk.1.1.2, ⟨hk.1.2, hk.2⟩⟩)))
              (case aS => exact (below_size (by repeat (first | (with_reducible first | exact HB.out | apply below_alloc | apply pw_below_drewN | apply below_drew1 | refine below_set ?_ GE330.out | refine below_set ?_ GE331.out) | exact HB.out))))
              (case aL => have := LMc4.out; omega)
              intro v336 w16 ho hb hg hat
              rw [← Ny335.out] at ho
              have n0_ := Aside0.mk (blk_grown (g := gb330) (o := .cells #[.int .i64 a1_0, .int .i64 a1_1, .int .u64 a1_2, .string a1_3] 34 (0, 0)) (by (with_reducible repeat (first | refine blk_drewN ?_ _ | refine blk_drew ?_ | refine blk_alloc ?_ _)); exact BK330.out) hg (Kd.R_away HO334.out (fun _ hk => hk.1.2)))
              have n1_ := Aside0.mk (blk_grown (g := gb331) (o := .cells #[.int .i64 a2_0, .int .i64 a2_1, .int .u64 a2_2, .string a2_3] 34 (0, 0)) (by (with_reducible repeat (first | refine blk_drewN ?_ _ | refine blk_drew ?_ | refine blk_alloc ?_ _)); exact BK331.out) hg (Kd.R_away HO334.out (fun _ hk => hk.2)))
              have n2_ := Aside0.mk (Kd.R_after (ok := (fun k_ => k_ ≠ gb330 ∧ k_ ≠ gb331)) (by (with_reducible repeat (first | apply Kd.R_alloc | apply Kd.R_drewN | apply Kd.R_drew)); exact Kd.R_mono HO340.out (fun _ hk => ⟨⟨hk.1.1.2, hk.1.2⟩, hk.2⟩)) hg hat)
              have n3_ := Aside0.mk (hb)
              have n4_ := Aside0.mk (ho)
              clear BK330
              clear BK331
              clear HO340
              clear HB
              clear HO334
              have BK330 := n0_
              have BK331 := n1_
              have HO340 := n2_
              have HB := n3_
              have HO337 := n4_
              clear n0_ n1_ n2_ n3_ n4_
              clear ho hb hg hat
              refine hK.out _ _ ⟨(blk_cell BK330.out 0).trans rfl, (blk_cell BK330.out 1).trans rfl, (blk_cell BK330.out 2).trans rfl, (blk_cell BK330.out 3).trans rfl⟩ (fun hHeld => ?_)
              clear hK K
              refine norm_ (a' := ?_) ?_ ?_
              rotate_left
              · show Act.put _ (some 11) _ = _
                simp only [Act.put, List.setIfInBounds_toArray, List.set_cons_zero, List.set_cons_succ, i64_w, i32_w]
                rfl
              exact norm_ (by simp only [putAll, Act.put, List.setIfInBounds_toArray, List.set_cons_zero, List.set_cons_succ]) (hCont (v333, v336, v339) _ ⟨hHeld, (by (with_reducible repeat (first | apply Kd.R_alloc | apply Kd.R_drewN | apply Kd.R_drew)); exact HO337.out), (by (with_reducible repeat (first | apply Kd.R_alloc | apply Kd.R_drewN | apply Kd.R_drew)); exact Kd.R_mono HO340.out (fun _ hk => ⟨hk.2, ⟨hk.1.1, hk.1.2⟩⟩)), (by (with_reducible repeat (first | refine blk_drewN ?_ _ | refine blk_drew ?_ | refine blk_alloc ?_ _)); exact BK330.out), (by (with_reducible repeat (first | refine blk_drewN ?_ _ | refine blk_drew ?_ | refine blk_alloc ?_ _)); exact BK331.out), (by repeat (first | (with_reducible first | exact HB.out | apply below_alloc | apply pw_below_drewN | apply below_drew1 | refine below_set ?_ GE330.out | refine below_set ?_ GE331.out) | exact HB.out))⟩)
          rintro ⟨v333, v336, v339⟩ w17 ⟨hS_, h0_, h1_, h2_, h3_, h4_⟩
          have n0_ : Aside0 (Kd.R k34 34 w17 w.heap.size (fun k_ => some k_ ≠ (v339 : Value).ownBlock ∧ k_ ≠ gb330 ∧ k_ ≠ gb331) v336 y335) := ⟨h0_⟩
          have n1_ : Aside0 (Kd.R k34 34 w17 w.heap.size (fun k_ => some k_ ≠ (v336 : Value).ownBlock ∧ k_ ≠ gb330 ∧ k_ ≠ gb331) v339 y338) := ⟨h1_⟩
          have n2_ : Aside0 (w17.heap[gb330]? = some (.cells #[.int .i64 a1_0, .int .i64 a1_1, .int .u64 a1_2, .string a1_3] 34 (0, 0))) := ⟨h2_⟩
          have n3_ : Aside0 (w17.heap[gb331]? = some (.cells #[.int .i64 a2_0, .int .i64 a2_1, .int .u64 a2_2, .string a2_3] 34 (0, 0))) := ⟨h3_⟩
          have n4_ : Aside0 (Below w.heap.size w w17) := ⟨h4_⟩
          clear BK330
          clear BK331
          clear HB
          clear h0_ h1_ h2_ h3_ h4_
          have HO337 := n0_
          have HO340 := n1_
          have BK330 := n2_
          have BK331 := n3_
          have HB := n4_
          clear n0_ n1_ n2_ n3_ n4_
          have hHeld : w17.cell? ⟨gb330, 0, none⟩ = some (.int .i64 a1_0) ∧ w17.cell? ⟨gb330, 1, none⟩ = some (.int .i64 a1_1) ∧ w17.cell? ⟨gb330, 2, none⟩ = some (.int .u64 a1_2) ∧ w17.cell? ⟨gb330, 3, none⟩ = some (.string a1_3) := hS_
          obtain ⟨Ao19, co19, eo19⟩ := Kd.R_slice HO340.out
          (first | subst eo19 | (injection eo19 with f1_ f2_ f3_; have f4_ := f1_.symm; have f5_ := f3_.symm; clear f1_ f2_ f3_; subst f4_; subst f5_))
          refine norm_ (a' := ?_) ?_ ?_
          rotate_left
          · simp only [putAll, Act.put, List.setIfInBounds_toArray, List.set_cons_zero, List.set_cons_succ]
            rfl
          refine one_ (i := 5) (N := some 14) #[true, true, true, true, true, true, false] rfl rfl (by kernel_rfl) (by decide) (fun K hK => ?_)
          refine Kd.R_append_rows_step k34 (w0 := w) w.heap.size (by rfl) (.tmp 11) (.tmp 13) 22 34 (.agg #[(.int .i64 0), (.int .i64 0), (.int .u64 0), (.string ⟨#[]⟩)]) 40 rfl Tryd.underlying22 info34 rfl (by decide) (by omega) v336 y335 y338 _ _ _ (fun k_ => some k_ ≠ (.slice Ao19 y338.length co19 : Value).ownBlock ∧ k_ ≠ gb330 ∧ k_ ≠ gb331) (fun _ => False) rfl rfl ?aO ?aR (fun _ _ h => h) (fun _ h => h.elim) ?aF ?aB ?aS ?aL ?_
          (case aR => repeat (first | exact (Kd.R_reads' HO340.out).2.2 | (with_reducible refine Kd.C_alloc ?_ _) | (with_reducible refine Kd.C_drewN ?_ _) | (with_reducible refine Kd.C_drew ?_)))
          (case aB => exact (by repeat (first | (with_reducible first | exact HB.out | apply below_alloc | apply pw_below_drewN | apply below_drew1 | refine below_set ?_ GE330.out | refine below_set ?_ GE331.out) | exact HB.out)))
          (case aF => exact (fun k_ hk => ⟨Kd.fresh' (Kd.R_lt (by (with_reducible repeat (first | apply Kd.R_alloc | apply Kd.R_drewN | apply Kd.R_drew)); exact HO340.out)) k_ hk, Kd.freshB (g := gb330) (o := .cells #[.int .i64 a1_0, .int .i64 a1_1, .int .u64 a1_2, .string a1_3] 34 (0, 0)) (by (with_reducible repeat (first | refine blk_drewN ?_ _ | refine blk_drew ?_ | refine blk_alloc ?_ _)); exact BK330.out) k_ hk, Kd.freshB (g := gb331) (o := .cells #[.int .i64 a2_0, .int .i64 a2_1, .int .u64 a2_2, .string a2_3] 34 (0, 0)) (by (with_reducible repeat (first | refine blk_drewN ?_ _ | refine blk_drew ?_ | refine blk_alloc ?_ _)); exact BK331.out) k_ hk⟩))
          (case aO => exact (by (with_reducible repeat (first | apply Kd.R_alloc | apply Kd.R_drewN | apply Kd.R_drew)); exact HO337.out))
          (case aS => exact (below_size (by repeat (first | (with_reducible first | exact HB.out | apply below_alloc | apply pw_below_drewN | apply below_drew1 | refine below_set ?_ GE330.out | refine below_set ?_ GE331.out) | exact HB.out))))
          (case aL => have := LMc5.out; omega)
          intro v342 w18 ho hb hg hat
          rw [← Ny341.out] at ho
          have n0_ := Aside0.mk (blk_grown (g := gb330) (o := .cells #[.int .i64 a1_0, .int .i64 a1_1, .int .u64 a1_2, .string a1_3] 34 (0, 0)) (by (with_reducible repeat (first | refine blk_drewN ?_ _ | refine blk_drew ?_ | refine blk_alloc ?_ _)); exact BK330.out) hg (Kd.R_away HO337.out (fun _ hk => hk.2.1)))
          have n1_ := Aside0.mk (blk_grown (g := gb331) (o := .cells #[.int .i64 a2_0, .int .i64 a2_1, .int .u64 a2_2, .string a2_3] 34 (0, 0)) (by (with_reducible repeat (first | refine blk_drewN ?_ _ | refine blk_drew ?_ | refine blk_alloc ?_ _)); exact BK331.out) hg (Kd.R_away HO337.out (fun _ hk => hk.2.2)))
          have n2_ := Aside0.mk (Kd.R_after (ok := (fun k_ => k_ ≠ gb330 ∧ k_ ≠ gb331)) (by (with_reducible repeat (first | apply Kd.R_alloc | apply Kd.R_drewN | apply Kd.R_drew)); exact Kd.R_mono HO340.out (fun _ hk => ⟨⟨hk.2.1, hk.2.2⟩, hk.1⟩)) hg hat)
          have n3_ := Aside0.mk (hb)
          have n4_ := Aside0.mk (ho)
          clear BK330
          clear BK331
          clear HO340
          clear HB
          clear HO337
          have BK330 := n0_
          have BK331 := n1_
          have HO340 := n2_
          have HB := n3_
          have HO343 := n4_
          clear n0_ n1_ n2_ n3_ n4_
          clear ho hb hg hat
          refine hK.out _ _ ⟨(blk_cell BK330.out 0).trans rfl, (blk_cell BK330.out 1).trans rfl, (blk_cell BK330.out 2).trans rfl, (blk_cell BK330.out 3).trans rfl⟩ (fun hHeld => ?_)
          clear hK K
          refine norm_ (a' := ?_) ?_ ?_
          rotate_left
          · show Act.put _ (some 14) _ = _
            simp only [Act.put, List.setIfInBounds_toArray, List.set_cons_zero, List.set_cons_succ, i64_w, i32_w]
            rfl
          refine pure_ (i := 6) (N := some 7) (v := ?_) (a' := ?_) #[true, true, true, true, true, true, true] rfl rfl (by kernel_rfl) (fun _ _ _ h => h) (Or.inl ⟨by rfl, ?_⟩) ?_ ?_
          rotate_left
          · intro w'
            go_simp
            with_reducible rfl
          rotate_left
          · simp only [Act.put, List.setIfInBounds_toArray, List.set_cons_zero, List.set_cons_succ, i64_w, i32_w]
            rfl
          refine done_ (by kernel_rfl) ?_
          try go_wp2
          have n0_ := Aside0.mk (Kd.R_drew HO340.out)
          have n1_ := Aside0.mk (Kd.R_drew HO343.out)
          have n2_ := Aside0.mk (blk_drew BK330.out)
          have n3_ := Aside0.mk (blk_drew BK331.out)
          have n4_ := Aside0.mk (below_drew1 HB.out)
          clear HO340
          clear HO343
          clear BK330
          clear BK331
          clear HB
          have HO340 := n0_
          have HO343 := n1_
          have BK330 := n2_
          have BK331 := n3_
          have HB := n4_
          clear n0_ n1_ n2_ n3_ n4_
          refine start_ (n := 7) (S := fun w' => w'.cell? ⟨gb331, 0, none⟩ = some (.int .i64 a2_0) ∧ w'.cell? ⟨gb331, 1, none⟩ = some (.int .i64 a2_1) ∧ w'.cell? ⟨gb331, 2, none⟩ = some (.int .u64 a2_2) ∧ w'.cell? ⟨gb331, 3, none⟩ = some (.string a2_3)) (ds := []) #[false, false, false, false, false, false, false] (by kernel_rfl) rfl rfl ⟨(blk_cell BK331.out 0).trans rfl, (blk_cell BK331.out 1).trans rfl, (blk_cell BK331.out 2).trans rfl, (blk_cell BK331.out 3).trans rfl⟩ (fun hHeld => ?_)
          generalize w18.drew = w20 at HO340 HO343 BK330 BK331 HB hHeld ⊢
          refine pure_ (i := 1) (N := some 16) (v := ?_) (a' := ?_) #[false, true, false, false, false, false, false] rfl rfl (by kernel_rfl) (fun _ _ _ h => h) (Or.inl ⟨by rfl, ?_⟩) ?_ ?_
          rotate_left
          · intro w'
            go_simp
            with_reducible rfl
          rotate_left
          · simp only [Act.put, List.setIfInBounds_toArray, List.set_cons_zero, List.set_cons_succ, i64_w, i32_w]
            rfl
          refine take_ (i := 3) (N := some 18) (v := ?_) (a' := ?_) #[false, true, false, true, false, false, false] rfl rfl (by kernel_rfl) (fun _ _ _ h => h) (Or.inl ⟨by rfl, ?_⟩) hHeld ?_ ?_
          rotate_left
          · rintro w' ⟨s0, s1, s2, s3⟩
            go_simp
            with_reducible rfl
          rotate_left
          · simp only [Act.put, List.setIfInBounds_toArray, List.set_cons_zero, List.set_cons_succ, i64_w, i32_w]
            rfl
          refine join_ (σ := Value × Value × Value) 2 #[true, true, true, true, true, false, false] (fun s_ => [(15, s_.1), (17, s_.2.1), (19, s_.2.2)]) (fun s_ w' => (w'.cell? ⟨gb331, 0, none⟩ = some (.int .i64 a2_0) ∧ w'.cell? ⟨gb331, 1, none⟩ = some (.int .i64 a2_1) ∧ w'.cell? ⟨gb331, 2, none⟩ = some (.int .u64 a2_2) ∧ w'.cell? ⟨gb331, 3, none⟩ = some (.string a2_3)) ∧ (Kd.R k34 34 w' w.heap.size (fun k_ => some k_ ≠ (v342 : Value).ownBlock ∧ some k_ ≠ (s_.2.1 : Value).ownBlock ∧ some k_ ≠ (s_.2.2 : Value).ownBlock ∧ k_ ≠ gb330 ∧ k_ ≠ gb331) (.slice Ao19 y338.length co19) y338) ∧ (Kd.R k34 34 w' w.heap.size (fun k_ => some k_ ≠ (.slice Ao19 y338.length co19 : Value).ownBlock ∧ some k_ ≠ (s_.2.1 : Value).ownBlock ∧ some k_ ≠ (s_.2.2 : Value).ownBlock ∧ k_ ≠ gb330 ∧ k_ ≠ gb331) v342 y341) ∧ (Kd.R k34 34 w' w.heap.size (fun k_ => some k_ ≠ (.slice Ao19 y338.length co19 : Value).ownBlock ∧ some k_ ≠ (v342 : Value).ownBlock ∧ some k_ ≠ (s_.2.2 : Value).ownBlock ∧ k_ ≠ gb330 ∧ k_ ≠ gb331) s_.2.1 y347) ∧ (Kd.R k34 34 w' w.heap.size (fun k_ => some k_ ≠ (.slice Ao19 y338.length co19 : Value).ownBlock ∧ some k_ ≠ (v342 : Value).ownBlock ∧ some k_ ≠ (s_.2.1 : Value).ownBlock ∧ k_ ≠ gb330 ∧ k_ ≠ gb331) s_.2.2 y350) ∧ (w'.heap[gb330]? = some (.cells #[.int .i64 a1_0, .int .i64 a1_1, .int .u64 a1_2, .string a1_3] 34 (0, 0))) ∧ (w'.heap[gb331]? = some (.cells #[.int .i64 a2_0, .int .i64 a2_1, .int .u64 a2_2, .string a2_3] 34 (0, 0))) ∧ (Below w.heap.size w w')) ?_ ?_
          rotate_left
          · intro hCont
            refine two_ (i := 0) (j := 4) (Ni := some 15) (Nj := some 19) #[true, true, false, true, false, false, false] #[false, true, false, true, true, false, false] rfl rfl rfl rfl (by kernel_rfl) (by decide) (by decide) (fun K hK => ?_) (fun K hK => ?_)
            · skip
              refine Kd.R_lit_step k34 _ 34 ?hg (N := 15) ?hd (xs := ([] : List (S34))) (inner := []) (ok := fun _ => True) (okp := fun _ => True) ?hr ?hp (fun _ hk => hk) trivial (Below.refl _ _) (Nat.le_refl _) (by simp) ?_; (case hd => rfl); (case hg => rfl); (case hr => first | (go_simp; done) | (go_simp; rfl)); (case hp => exact (Reps.none _ _))
              intro v345 w21 ho22 hb hg_ hnew_
              clear hg_ hnew_
              (first | rw [← Ny344.out] at ho22 | (simp only [Int.reduceToNat] at ho22; rw [← Ny344.out] at ho22))
              have n0_ := Aside0.mk (Kd.R_elder' (by (with_reducible repeat (first | apply Kd.R_alloc | apply Kd.R_drewN | apply Kd.R_drew)); exact HO340.out) (Kd.R_base ho22) hb)
              have n1_ := Aside0.mk (Kd.R_elder' (by (with_reducible repeat (first | apply Kd.R_alloc | apply Kd.R_drewN | apply Kd.R_drew)); exact HO343.out) (Kd.R_base ho22) hb)
              have n2_ := Aside0.mk (Kd.R_lower (Kd.R_newB (Kd.R_newB (Kd.R_new' (Kd.R_new' ho22 (Kd.R_lt (by (with_reducible repeat (first | apply Kd.R_alloc | apply Kd.R_drewN | apply Kd.R_drew)); exact HO340.out))) (Kd.R_lt (by (with_reducible repeat (first | apply Kd.R_alloc | apply Kd.R_drewN | apply Kd.R_drew)); exact HO343.out))) (g := gb330) (o := .cells #[.int .i64 a1_0, .int .i64 a1_1, .int .u64 a1_2, .string a1_3] 34 (0, 0)) (by (with_reducible repeat (first | refine blk_drewN ?_ _ | refine blk_drew ?_ | refine blk_alloc ?_ _)); exact BK330.out)) (g := gb331) (o := .cells #[.int .i64 a2_0, .int .i64 a2_1, .int .u64 a2_2, .string a2_3] 34 (0, 0)) (by (with_reducible repeat (first | refine blk_drewN ?_ _ | refine blk_drew ?_ | refine blk_alloc ?_ _)); exact BK331.out)) (below_size (by repeat (first | (with_reducible first | exact HB.out | apply below_alloc | apply pw_below_drewN | apply below_drew1 | refine below_set ?_ GE330.out | refine below_set ?_ GE331.out) | exact HB.out))))
              have n3_ := Aside0.mk (blk_below (g := gb330) (o := .cells #[.int .i64 a1_0, .int .i64 a1_1, .int .u64 a1_2, .string a1_3] 34 (0, 0)) (by (with_reducible repeat (first | refine blk_drewN ?_ _ | refine blk_drew ?_ | refine blk_alloc ?_ _)); exact BK330.out) hb)
              have n4_ := Aside0.mk (blk_below (g := gb331) (o := .cells #[.int .i64 a2_0, .int .i64 a2_1, .int .u64 a2_2, .string a2_3] 34 (0, 0)) (by (with_reducible repeat (first | refine blk_drewN ?_ _ | refine blk_drew ?_ | refine blk_alloc ?_ _)); exact BK331.out) hb)
              have n5_ := Aside0.mk (below_step (by repeat (first | (with_reducible first | exact HB.out | apply below_alloc | apply pw_below_drewN | apply below_drew1 | refine below_set ?_ GE330.out | refine below_set ?_ GE331.out) | exact HB.out)) hb)
              clear HO340
              clear HO343
              clear BK330
              clear BK331
              clear HB
              have HO340 := n0_
              have HO343 := n1_
              have HO346 := n2_
              have BK330 := n3_
              have BK331 := n4_
              have HB := n5_
              clear n0_ n1_ n2_ n3_ n4_ n5_
              clear hb ho22
              refine hK.out _ _ ⟨(blk_cell BK331.out 0).trans rfl, (blk_cell BK331.out 1).trans rfl, (blk_cell BK331.out 2).trans rfl, (blk_cell BK331.out 3).trans rfl⟩ (fun hHeld => ?_)
              clear hK K
              refine norm_ (a' := ?_) ?_ ?_
              rotate_left
              · show Act.put _ (some 15) _ = _
                simp only [Act.put, List.setIfInBounds_toArray, List.set_cons_zero, List.set_cons_succ, i64_w, i32_w]
                rfl
              refine two_ (i := 2) (j := 4) (Ni := some 17) (Nj := some 19) #[true, true, true, true, false, false, false] #[true, true, false, true, true, false, false] rfl rfl rfl rfl (by kernel_rfl) (by decide) (by decide) (fun K hK => ?_) (fun K hK => ?_)
              · skip
                refine Kd.R_append_rows_step k34 (w0 := w) w.heap.size (by rfl) (.tmp 15) (.tmp 16) 22 34 (.agg #[(.int .i64 0), (.int .i64 0), (.int .u64 0), (.string ⟨#[]⟩)]) 40 rfl Tryd.underlying22 info34 rfl (by decide) (by omega) v345 y344 l0 _ _ _ (fun k_ => some k_ ≠ (.slice Ao19 y338.length co19 : Value).ownBlock ∧ some k_ ≠ (v342 : Value).ownBlock ∧ k_ ≠ gb330 ∧ k_ ≠ gb331) (fun _ => False) rfl rfl ?aO ?aR (fun _ _ h => h) (fun _ h => h.elim) ?aF ?aB ?aS ?aL ?_
                (case aR => repeat (first | exact (Kd.C_below HR0.out HB.out) | (with_reducible refine Kd.C_alloc ?_ _) | (with_reducible refine Kd.C_drewN ?_ _) | (with_reducible refine Kd.C_drew ?_)))
                (case aB => exact (by repeat (first | (with_reducible first | exact HB.out | apply below_alloc | apply pw_below_drewN | apply below_drew1 | refine below_set ?_ GE330.out | refine below_set ?_ GE331.out) | exact HB.out)))
                (case aF => exact (fun k_ hk => ⟨Kd.fresh' (Kd.R_lt (by (with_reducible repeat (first | apply Kd.R_alloc | apply Kd.R_drewN | apply Kd.R_drew)); exact HO340.out)) k_ hk, Kd.fresh' (Kd.R_lt (by (with_reducible repeat (first | apply Kd.R_alloc | apply Kd.R_drewN | apply Kd.R_drew)); exact HO343.out)) k_ hk, Kd.freshB (g := gb330) (o := .cells #[.int .i64 a1_0, .int .i64 a1_1, .int .u64 a1_2, .string a1_3] 34 (0, 0)) (by (with_reducible repeat (first | refine blk_drewN ?_ _ | refine blk_drew ?_ | refine blk_alloc ?_ _)); exact BK330.out) k_ hk, Kd.freshB (g := gb331) (o := .cells #[.int .i64 a2_0, .int .i64 a2_1, .int .u64 a2_2, .string a2_3] 34 (0, 0)) (by (with_reducible repeat (first | refine blk_drewN ?_ _ | refine blk_drew ?_ | refine blk_alloc ?_ _)); exact BK331.out) k_ hk⟩))
                (case aO => exact (by (with_reducible repeat (first | apply Kd.R_alloc | apply Kd.R_drewN | apply Kd.R_drew)); exact Kd.R_mono HO346.out (fun _ hk => ⟨hk.1.1.1.2, ⟨hk.1.1.2, ⟨hk.1.2, hk.2⟩⟩⟩)))
                (case aS => exact (below_size (by repeat (first | (with_reducible first | exact HB.out | apply below_alloc | apply pw_below_drewN | apply below_drew1 | refine below_set ?_ GE330.out | refine below_set ?_ GE331.out) | exact HB.out))))
                (case aL => have := LMc6.out; omega)
                intro v348 w23 ho hb hg hat
                rw [← Ny347.out] at ho
                have n0_ := Aside0.mk (blk_grown (g := gb330) (o := .cells #[.int .i64 a1_0, .int .i64 a1_1, .int .u64 a1_2, .string a1_3] 34 (0, 0)) (by (with_reducible repeat (first | refine blk_drewN ?_ _ | refine blk_drew ?_ | refine blk_alloc ?_ _)); exact BK330.out) hg (Kd.R_away HO346.out (fun _ hk => hk.1.2)))
                have n1_ := Aside0.mk (blk_grown (g := gb331) (o := .cells #[.int .i64 a2_0, .int .i64 a2_1, .int .u64 a2_2, .string a2_3] 34 (0, 0)) (by (with_reducible repeat (first | refine blk_drewN ?_ _ | refine blk_drew ?_ | refine blk_alloc ?_ _)); exact BK331.out) hg (Kd.R_away HO346.out (fun _ hk => hk.2)))
                have n2_ := Aside0.mk (Kd.R_after (ok := (fun k_ => some k_ ≠ (v342 : Value).ownBlock ∧ k_ ≠ gb330 ∧ k_ ≠ gb331)) (by (with_reducible repeat (first | apply Kd.R_alloc | apply Kd.R_drewN | apply Kd.R_drew)); exact Kd.R_mono HO340.out (fun _ hk => ⟨⟨hk.1.2, ⟨hk.1.1.1, hk.1.1.2⟩⟩, hk.2⟩)) hg hat)
                have n3_ := Aside0.mk (Kd.R_after (ok := (fun k_ => some k_ ≠ (.slice Ao19 y338.length co19 : Value).ownBlock ∧ k_ ≠ gb330 ∧ k_ ≠ gb331)) (by (with_reducible repeat (first | apply Kd.R_alloc | apply Kd.R_drewN | apply Kd.R_drew)); exact HO343.out) hg hat)
                have n4_ := Aside0.mk (hb)
                have n5_ := Aside0.mk (ho)
                clear BK330
                clear BK331
                clear HO340
                clear HO343
                clear HB
                clear HO346
                have BK330 := n0_
                have BK331 := n1_
                have HO340 := n2_
                have HO343 := n3_
                have HB := n4_
                have HO349 := n5_
                clear n0_ n1_ n2_ n3_ n4_ n5_
                clear ho hb hg hat
                refine hK.out _ _ ⟨(blk_cell BK331.out 0).trans rfl, (blk_cell BK331.out 1).trans rfl, (blk_cell BK331.out 2).trans rfl, (blk_cell BK331.out 3).trans rfl⟩ (fun hHeld => ?_)
                clear hK K
                refine norm_ (a' := ?_) ?_ ?_
                rotate_left
                · show Act.put _ (some 17) _ = _
                  simp only [Act.put, List.setIfInBounds_toArray, List.set_cons_zero, List.set_cons_succ, i64_w, i32_w]
                  rfl
                refine one_ (i := 4) (N := some 19) #[true, true, true, true, true, false, false] rfl rfl (by kernel_rfl) (by decide) (fun K hK => ?_)
                refine Kd.R_lit_step k34 _ 34 ?hg (N := 19) ?hd (xs := ([(⟨a2_0, a2_1, a2_2, a2_3⟩ : S34)] : List (S34))) (inner := [.int .i64 a2_0, .int .i64 a2_1, .int .u64 a2_2, .string a2_3]) (ok := fun _ => True) (okp := fun _ => True) ?hr ?hp (fun _ hk => hk) trivial (Below.refl _ _) (Nat.le_refl _) (by simp) ?_; (case hd => rfl); (case hg => rfl); (case hr => first | (go_simp; done) | (go_simp; rfl)); (case hp => exact (Reps.c4 (show Kd.M k34 _ _ _ (⟨a2_0, a2_1, a2_2, a2_3⟩ : S34) [.int .i64 a2_0, .int .i64 a2_1, .int .u64 a2_2, .string a2_3] from (k34_mkM _ _ _ (⟨a2_0, a2_1, a2_2, a2_3⟩ : S34) )) (Reps.none _ _)))
                intro v351 w24 ho25 hb hg_ hnew_
                clear hg_ hnew_
                (first | rw [← Ny350.out] at ho25 | (simp only [Int.reduceToNat] at ho25; rw [← Ny350.out] at ho25))
                have n0_ := Aside0.mk (Kd.R_elder' (by (with_reducible repeat (first | apply Kd.R_alloc | apply Kd.R_drewN | apply Kd.R_drew)); exact HO340.out) (Kd.R_base ho25) hb)
                have n1_ := Aside0.mk (Kd.R_elder' (by (with_reducible repeat (first | apply Kd.R_alloc | apply Kd.R_drewN | apply Kd.R_drew)); exact HO343.out) (Kd.R_base ho25) hb)
                have n2_ := Aside0.mk (Kd.R_elder' (by (with_reducible repeat (first | apply Kd.R_alloc | apply Kd.R_drewN | apply Kd.R_drew)); exact HO349.out) (Kd.R_base ho25) hb)
                have n3_ := Aside0.mk (Kd.R_lower (Kd.R_newB (Kd.R_newB (Kd.R_new' (Kd.R_new' (Kd.R_new' ho25 (Kd.R_lt (by (with_reducible repeat (first | apply Kd.R_alloc | apply Kd.R_drewN | apply Kd.R_drew)); exact HO340.out))) (Kd.R_lt (by (with_reducible repeat (first | apply Kd.R_alloc | apply Kd.R_drewN | apply Kd.R_drew)); exact HO343.out))) (Kd.R_lt (by (with_reducible repeat (first | apply Kd.R_alloc | apply Kd.R_drewN | apply Kd.R_drew)); exact HO349.out))) (g := gb330) (o := .cells #[.int .i64 a1_0, .int .i64 a1_1, .int .u64 a1_2, .string a1_3] 34 (0, 0)) (by (with_reducible repeat (first | refine blk_drewN ?_ _ | refine blk_drew ?_ | refine blk_alloc ?_ _)); exact BK330.out)) (g := gb331) (o := .cells #[.int .i64 a2_0, .int .i64 a2_1, .int .u64 a2_2, .string a2_3] 34 (0, 0)) (by (with_reducible repeat (first | refine blk_drewN ?_ _ | refine blk_drew ?_ | refine blk_alloc ?_ _)); exact BK331.out)) (below_size (by repeat (first | (with_reducible first | exact HB.out | apply below_alloc | apply pw_below_drewN | apply below_drew1 | refine below_set ?_ GE330.out | refine below_set ?_ GE331.out) | exact HB.out))))
                have n4_ := Aside0.mk (blk_below (g := gb330) (o := .cells #[.int .i64 a1_0, .int .i64 a1_1, .int .u64 a1_2, .string a1_3] 34 (0, 0)) (by (with_reducible repeat (first | refine blk_drewN ?_ _ | refine blk_drew ?_ | refine blk_alloc ?_ _)); exact BK330.out) hb)
                have n5_ := Aside0.mk (blk_below (g := gb331) (o := .cells #[.int .i64 a2_0, .int .i64 a2_1, .int .u64 a2_2, .string a2_3] 34 (0, 0)) (by (with_reducible repeat (first | refine blk_drewN ?_ _ | refine blk_drew ?_ | refine blk_alloc ?_ _)); exact BK331.out) hb)
                have n6_ := Aside0.mk (below_step (by repeat (first | (with_reducible first | exact HB.out | apply below_alloc | apply pw_below_drewN | apply below_drew1 | refine below_set ?_ GE330.out | refine below_set ?_ GE331.out) | exact HB.out)) hb)
                clear HO340
                clear HO343
                clear HO349
                clear BK330
                clear BK331
                clear HB
                have HO340 := n0_
                have HO343 := n1_
                have HO349 := n2_
                have HO352 := n3_
                have BK330 := n4_
                have BK331 := n5_
                have HB := n6_
                clear n0_ n1_ n2_ n3_ n4_ n5_ n6_
                clear hb ho25
                refine hK.out _ _ ⟨(blk_cell BK331.out 0).trans rfl, (blk_cell BK331.out 1).trans rfl, (blk_cell BK331.out 2).trans rfl, (blk_cell BK331.out 3).trans rfl⟩ (fun hHeld => ?_)
                clear hK K
                refine norm_ (a' := ?_) ?_ ?_
                rotate_left
                · show Act.put _ (some 19) _ = _
                  simp only [Act.put, List.setIfInBounds_toArray, List.set_cons_zero, List.set_cons_succ, i64_w, i32_w]
                  rfl
                exact norm_ (by simp only [putAll, Act.put, List.setIfInBounds_toArray, List.set_cons_zero, List.set_cons_succ]) (hCont (v345, v348, v351) _ ⟨hHeld, (by (with_reducible repeat (first | apply Kd.R_alloc | apply Kd.R_drewN | apply Kd.R_drew)); exact Kd.R_mono HO340.out (fun _ hk => ⟨hk.1.1.1, ⟨hk.1.2, ⟨hk.2, ⟨hk.1.1.2.1, hk.1.1.2.2⟩⟩⟩⟩)), (by (with_reducible repeat (first | apply Kd.R_alloc | apply Kd.R_drewN | apply Kd.R_drew)); exact Kd.R_mono HO343.out (fun _ hk => ⟨hk.1.1.1, ⟨hk.1.2, ⟨hk.2, ⟨hk.1.1.2.1, hk.1.1.2.2⟩⟩⟩⟩)), (by (with_reducible repeat (first | apply Kd.R_alloc | apply Kd.R_drewN | apply Kd.R_drew)); exact Kd.R_mono HO349.out (fun _ hk => ⟨hk.1.1, ⟨hk.1.2.1, ⟨hk.2, ⟨hk.1.2.2.1, hk.1.2.2.2⟩⟩⟩⟩)), (by (with_reducible repeat (first | apply Kd.R_alloc | apply Kd.R_drewN | apply Kd.R_drew)); exact Kd.R_mono HO352.out (fun _ hk => ⟨hk.1.1.1.1.2, ⟨hk.1.1.1.2, ⟨hk.1.1.2, ⟨hk.1.2, hk.2⟩⟩⟩⟩)), (by (with_reducible repeat (first | refine blk_drewN ?_ _ | refine blk_drew ?_ | refine blk_alloc ?_ _)); exact BK330.out), (by (with_reducible repeat (first | refine blk_drewN ?_ _ | refine blk_drew ?_ | refine blk_alloc ?_ _)); exact BK331.out), (by repeat (first | (with_reducible first | exact HB.out | apply below_alloc | apply pw_below_drewN | apply below_drew1 | refine below_set ?_ GE330.out | refine below_set ?_ GE331.out) | exact HB.out))⟩)
              · skip
                refine Kd.R_lit_step k34 _ 34 ?hg (N := 19) ?hd (xs := ([(⟨a2_0, a2_1, a2_2, a2_3⟩ : S34)] : List (S34))) (inner := [.int .i64 a2_0, .int .i64 a2_1, .int .u64 a2_2, .string a2_3]) (ok := fun _ => True) (okp := fun _ => True) ?hr ?hp (fun _ hk => hk) trivial (Below.refl _ _) (Nat.le_refl _) (by simp) ?_; (case hd => rfl); (case hg => rfl); (case hr => first | (go_simp; done) | (go_simp; rfl)); (case hp => exact (Reps.c4 (show Kd.M k34 _ _ _ (⟨a2_0, a2_1, a2_2, a2_3⟩ : S34) [.int .i64 a2_0, .int .i64 a2_1, .int .u64 a2_2, .string a2_3] from (k34_mkM _ _ _ (⟨a2_0, a2_1, a2_2, a2_3⟩ : S34) )) (Reps.none _ _)))
                intro v351 w23 ho24 hb hg_ hnew_
                clear hg_ hnew_
                (first | rw [← Ny350.out] at ho24 | (simp only [Int.reduceToNat] at ho24; rw [← Ny350.out] at ho24))
                have n0_ := Aside0.mk (Kd.R_elder' (by (with_reducible repeat (first | apply Kd.R_alloc | apply Kd.R_drewN | apply Kd.R_drew)); exact HO340.out) (Kd.R_base ho24) hb)
                have n1_ := Aside0.mk (Kd.R_elder' (by (with_reducible repeat (first | apply Kd.R_alloc | apply Kd.R_drewN | apply Kd.R_drew)); exact HO343.out) (Kd.R_base ho24) hb)
                have n2_ := Aside0.mk (Kd.R_elder' (by (with_reducible repeat (first | apply Kd.R_alloc | apply Kd.R_drewN | apply Kd.R_drew)); exact HO346.out) (Kd.R_base ho24) hb)
                have n3_ := Aside0.mk (Kd.R_lower (Kd.R_newB (Kd.R_newB (Kd.R_new' (Kd.R_new' (Kd.R_new' ho24 (Kd.R_lt (by (with_reducible repeat (first | apply Kd.R_alloc | apply Kd.R_drewN | apply Kd.R_drew)); exact HO340.out))) (Kd.R_lt (by (with_reducible repeat (first | apply Kd.R_alloc | apply Kd.R_drewN | apply Kd.R_drew)); exact HO343.out))) (Kd.R_lt (by (with_reducible repeat (first | apply Kd.R_alloc | apply Kd.R_drewN | apply Kd.R_drew)); exact HO346.out))) (g := gb330) (o := .cells #[.int .i64 a1_0, .int .i64 a1_1, .int .u64 a1_2, .string a1_3] 34 (0, 0)) (by (with_reducible repeat (first | refine blk_drewN ?_ _ | refine blk_drew ?_ | refine blk_alloc ?_ _)); exact BK330.out)) (g := gb331) (o := .cells #[.int .i64 a2_0, .int .i64 a2_1, .int .u64 a2_2, .string a2_3] 34 (0, 0)) (by (with_reducible repeat (first | refine blk_drewN ?_ _ | refine blk_drew ?_ | refine blk_alloc ?_ _)); exact BK331.out)) (below_size (by repeat (first | (with_reducible first | exact HB.out | apply below_alloc | apply pw_below_drewN | apply below_drew1 | refine below_set ?_ GE330.out | refine below_set ?_ GE331.out) | exact HB.out))))
                have n4_ := Aside0.mk (blk_below (g := gb330) (o := .cells #[.int .i64 a1_0, .int .i64 a1_1, .int .u64 a1_2, .string a1_3] 34 (0, 0)) (by (with_reducible repeat (first | refine blk_drewN ?_ _ | refine blk_drew ?_ | refine blk_alloc ?_ _)); exact BK330.out) hb)
                have n5_ := Aside0.mk (blk_below (g := gb331) (o := .cells #[.int .i64 a2_0, .int .i64 a2_1, .int .u64 a2_2, .string a2_3] 34 (0, 0)) (by (with_reducible repeat (first | refine blk_drewN ?_ _ | refine blk_drew ?_ | refine blk_alloc ?_ _)); exact BK331.out) hb)
                have n6_ := Aside0.mk (below_step (by repeat (first | (with_reducible first | exact HB.out | apply below_alloc | apply pw_below_drewN | apply below_drew1 | refine below_set ?_ GE330.out | refine below_set ?_ GE331.out) | exact HB.out)) hb)
                clear HO340
                clear HO343
                clear HO346
                clear BK330
                clear BK331
                clear HB
                have HO340 := n0_
                have HO343 := n1_
                have HO346 := n2_
                have HO352 := n3_
                have BK330 := n4_
                have BK331 := n5_
                have HB := n6_
                clear n0_ n1_ n2_ n3_ n4_ n5_ n6_
                clear hb ho24
                refine hK.out _ _ ⟨(blk_cell BK331.out 0).trans rfl, (blk_cell BK331.out 1).trans rfl, (blk_cell BK331.out 2).trans rfl, (blk_cell BK331.out 3).trans rfl⟩ (fun hHeld => ?_)
                clear hK K
                refine norm_ (a' := ?_) ?_ ?_
                rotate_left
                · show Act.put _ (some 19) _ = _
                  simp only [Act.put, List.setIfInBounds_toArray, List.set_cons_zero, List.set_cons_succ, i64_w, i32_w]
                  rfl
                refine one_ (i := 2) (N := some 17) #[true, true, true, true, true, false, false] rfl rfl (by kernel_rfl) (by decide) (fun K hK => ?_)
                refine Kd.R_append_rows_step k34 (w0 := w) w.heap.size (by rfl) (.tmp 15) (.tmp 16) 22 34 (.agg #[(.int .i64 0), (.int .i64 0), (.int .u64 0), (.string ⟨#[]⟩)]) 40 rfl Tryd.underlying22 info34 rfl (by decide) (by omega) v345 y344 l0 _ _ _ (fun k_ => some k_ ≠ (.slice Ao19 y338.length co19 : Value).ownBlock ∧ some k_ ≠ (v342 : Value).ownBlock ∧ some k_ ≠ (v351 : Value).ownBlock ∧ k_ ≠ gb330 ∧ k_ ≠ gb331) (fun _ => False) rfl rfl ?aO ?aR (fun _ _ h => h) (fun _ h => h.elim) ?aF ?aB ?aS ?aL ?_
                (case aR => repeat (first | exact (Kd.C_below HR0.out HB.out) | (with_reducible refine Kd.C_alloc ?_ _) | (with_reducible refine Kd.C_drewN ?_ _) | (with_reducible refine Kd.C_drew ?_)))
                (case aB => exact (by repeat (first | (with_reducible first | exact HB.out | apply below_alloc | apply pw_below_drewN | apply below_drew1 | refine below_set ?_ GE330.out | refine below_set ?_ GE331.out) | exact HB.out)))
                (case aF => exact (fun k_ hk => ⟨Kd.fresh' (Kd.R_lt (by (with_reducible repeat (first | apply Kd.R_alloc | apply Kd.R_drewN | apply Kd.R_drew)); exact HO340.out)) k_ hk, Kd.fresh' (Kd.R_lt (by (with_reducible repeat (first | apply Kd.R_alloc | apply Kd.R_drewN | apply Kd.R_drew)); exact HO343.out)) k_ hk, Kd.fresh' (Kd.R_lt (by (with_reducible repeat (first | apply Kd.R_alloc | apply Kd.R_drewN | apply Kd.R_drew)); exact HO352.out)) k_ hk, Kd.freshB (g := gb330) (o := .cells #[.int .i64 a1_0, .int .i64 a1_1, .int .u64 a1_2, .string a1_3] 34 (0, 0)) (by (with_reducible repeat (first | refine blk_drewN ?_ _ | refine blk_drew ?_ | refine blk_alloc ?_ _)); exact BK330.out) k_ hk, Kd.freshB (g := gb331) (o := .cells #[.int .i64 a2_0, .int .i64 a2_1, .int .u64 a2_2, .string a2_3] 34 (0, 0)) (by (with_reducible repeat (first | refine blk_drewN ?_ _ | refine blk_drew ?_ | refine blk_alloc ?_ _)); exact BK331.out) k_ hk⟩))
                (case aO => exact (by (with_reducible repeat (first | apply Kd.R_alloc | apply Kd.R_drewN | apply Kd.R_drew)); exact Kd.R_mono HO346.out (fun _ hk => ⟨hk.1.1.1.1.2, ⟨hk.1.1.1.2, ⟨hk.2, ⟨hk.1.1.2, hk.1.2⟩⟩⟩⟩)))
                (case aS => exact (below_size (by repeat (first | (with_reducible first | exact HB.out | apply below_alloc | apply pw_below_drewN | apply below_drew1 | refine below_set ?_ GE330.out | refine below_set ?_ GE331.out) | exact HB.out))))
                (case aL => have := LMc6.out; omega)
                intro v348 w25 ho hb hg hat
                rw [← Ny347.out] at ho
                have n0_ := Aside0.mk (blk_grown (g := gb330) (o := .cells #[.int .i64 a1_0, .int .i64 a1_1, .int .u64 a1_2, .string a1_3] 34 (0, 0)) (by (with_reducible repeat (first | refine blk_drewN ?_ _ | refine blk_drew ?_ | refine blk_alloc ?_ _)); exact BK330.out) hg (Kd.R_away HO346.out (fun _ hk => hk.1.1.2)))
                have n1_ := Aside0.mk (blk_grown (g := gb331) (o := .cells #[.int .i64 a2_0, .int .i64 a2_1, .int .u64 a2_2, .string a2_3] 34 (0, 0)) (by (with_reducible repeat (first | refine blk_drewN ?_ _ | refine blk_drew ?_ | refine blk_alloc ?_ _)); exact BK331.out) hg (Kd.R_away HO346.out (fun _ hk => hk.1.2)))
                have n2_ := Aside0.mk (Kd.R_after (ok := (fun k_ => some k_ ≠ (v342 : Value).ownBlock ∧ some k_ ≠ (v351 : Value).ownBlock ∧ k_ ≠ gb330 ∧ k_ ≠ gb331)) (by (with_reducible repeat (first | apply Kd.R_alloc | apply Kd.R_drewN | apply Kd.R_drew)); exact Kd.R_mono HO340.out (fun _ hk => ⟨⟨hk.1.1.2, ⟨hk.2, ⟨hk.1.1.1.1, hk.1.1.1.2⟩⟩⟩, hk.1.2⟩)) hg hat)
                have n3_ := Aside0.mk (Kd.R_after (ok := (fun k_ => some k_ ≠ (.slice Ao19 y338.length co19 : Value).ownBlock ∧ some k_ ≠ (v351 : Value).ownBlock ∧ k_ ≠ gb330 ∧ k_ ≠ gb331)) (by (with_reducible repeat (first | apply Kd.R_alloc | apply Kd.R_drewN | apply Kd.R_drew)); exact Kd.R_mono HO343.out (fun _ hk => ⟨⟨hk.1.1.1, ⟨hk.2, ⟨hk.1.1.2.1, hk.1.1.2.2⟩⟩⟩, hk.1.2⟩)) hg hat)
                have n4_ := Aside0.mk (Kd.R_after (ok := (fun k_ => some k_ ≠ (.slice Ao19 y338.length co19 : Value).ownBlock ∧ some k_ ≠ (v342 : Value).ownBlock ∧ k_ ≠ gb330 ∧ k_ ≠ gb331)) (by (with_reducible repeat (first | apply Kd.R_alloc | apply Kd.R_drewN | apply Kd.R_drew)); exact Kd.R_mono HO352.out (fun _ hk => ⟨⟨hk.1.1.1.1.2, ⟨hk.1.1.1.2, ⟨hk.1.2, hk.2⟩⟩⟩, hk.1.1.2⟩)) hg hat)
                have n5_ := Aside0.mk (hb)
                have n6_ := Aside0.mk (ho)
                clear BK330
                clear BK331
                clear HO340
                clear HO343
                clear HO352
                clear HB
                clear HO346
                have BK330 := n0_
                have BK331 := n1_
                have HO340 := n2_
                have HO343 := n3_
                have HO352 := n4_
                have HB := n5_
                have HO349 := n6_
                clear n0_ n1_ n2_ n3_ n4_ n5_ n6_
                clear ho hb hg hat
                refine hK.out _ _ ⟨(blk_cell BK331.out 0).trans rfl, (blk_cell BK331.out 1).trans rfl, (blk_cell BK331.out 2).trans rfl, (blk_cell BK331.out 3).trans rfl⟩ (fun hHeld => ?_)
                clear hK K
                refine norm_ (a' := ?_) ?_ ?_
                rotate_left
                · show Act.put _ (some 17) _ = _
                  simp only [Act.put, List.setIfInBounds_toArray, List.set_cons_zero, List.set_cons_succ, i64_w, i32_w]
                  rfl
                exact norm_ (by simp only [putAll, Act.put, List.setIfInBounds_toArray, List.set_cons_zero, List.set_cons_succ]) (hCont (v345, v348, v351) _ ⟨hHeld, (by (with_reducible repeat (first | apply Kd.R_alloc | apply Kd.R_drewN | apply Kd.R_drew)); exact Kd.R_mono HO340.out (fun _ hk => ⟨hk.1.1, ⟨hk.2, ⟨hk.1.2.1, ⟨hk.1.2.2.1, hk.1.2.2.2⟩⟩⟩⟩)), (by (with_reducible repeat (first | apply Kd.R_alloc | apply Kd.R_drewN | apply Kd.R_drew)); exact Kd.R_mono HO343.out (fun _ hk => ⟨hk.1.1, ⟨hk.2, ⟨hk.1.2.1, ⟨hk.1.2.2.1, hk.1.2.2.2⟩⟩⟩⟩)), (by (with_reducible repeat (first | apply Kd.R_alloc | apply Kd.R_drewN | apply Kd.R_drew)); exact HO349.out), (by (with_reducible repeat (first | apply Kd.R_alloc | apply Kd.R_drewN | apply Kd.R_drew)); exact Kd.R_mono HO352.out (fun _ hk => ⟨hk.1.1, ⟨hk.1.2.1, ⟨hk.2, ⟨hk.1.2.2.1, hk.1.2.2.2⟩⟩⟩⟩)), (by (with_reducible repeat (first | refine blk_drewN ?_ _ | refine blk_drew ?_ | refine blk_alloc ?_ _)); exact BK330.out), (by (with_reducible repeat (first | refine blk_drewN ?_ _ | refine blk_drew ?_ | refine blk_alloc ?_ _)); exact BK331.out), (by repeat (first | (with_reducible first | exact HB.out | apply below_alloc | apply pw_below_drewN | apply below_drew1 | refine below_set ?_ GE330.out | refine below_set ?_ GE331.out) | exact HB.out))⟩)
            · skip
              refine Kd.R_lit_step k34 _ 34 ?hg (N := 19) ?hd (xs := ([(⟨a2_0, a2_1, a2_2, a2_3⟩ : S34)] : List (S34))) (inner := [.int .i64 a2_0, .int .i64 a2_1, .int .u64 a2_2, .string a2_3]) (ok := fun _ => True) (okp := fun _ => True) ?hr ?hp (fun _ hk => hk) trivial (Below.refl _ _) (Nat.le_refl _) (by simp) ?_; (case hd => rfl); (case hg => rfl); (case hr => first | (go_simp; done) | (go_simp; rfl)); (case hp => exact (Reps.c4 (show Kd.M k34 _ _ _ (⟨a2_0, a2_1, a2_2, a2_3⟩ : S34) [.int .i64 a2_0, .int .i64 a2_1, .int .u64 a2_2, .string a2_3] from (k34_mkM _ _ _ (⟨a2_0, a2_1, a2_2, a2_3⟩ : S34) )) (Reps.none _ _)))
              intro v351 w21 ho22 hb hg_ hnew_
              clear hg_ hnew_
              (first | rw [← Ny350.out] at ho22 | (simp only [Int.reduceToNat] at ho22; rw [← Ny350.out] at ho22))
              have n0_ := Aside0.mk (Kd.R_elder' (by (with_reducible repeat (first | apply Kd.R_alloc | apply Kd.R_drewN | apply Kd.R_drew)); exact HO340.out) (Kd.R_base ho22) hb)
              have n1_ := Aside0.mk (Kd.R_elder' (by (with_reducible repeat (first | apply Kd.R_alloc | apply Kd.R_drewN | apply Kd.R_drew)); exact HO343.out) (Kd.R_base ho22) hb)
              have n2_ := Aside0.mk (Kd.R_lower (Kd.R_newB (Kd.R_newB (Kd.R_new' (Kd.R_new' ho22 (Kd.R_lt (by (with_reducible repeat (first | apply Kd.R_alloc | apply Kd.R_drewN | apply Kd.R_drew)); exact HO340.out))) (Kd.R_lt (by (with_reducible repeat (first | apply Kd.R_alloc | apply Kd.R_drewN | apply Kd.R_drew)); exact HO343.out))) (g := gb330) (o := .cells #[.int .i64 a1_0, .int .i64 a1_1, .int .u64 a1_2, .string a1_3] 34 (0, 0)) (by (with_reducible repeat (first | refine blk_drewN ?_ _ | refine blk_drew ?_ | refine blk_alloc ?_ _)); exact BK330.out)) (g := gb331) (o := .cells #[.int .i64 a2_0, .int .i64 a2_1, .int .u64 a2_2, .string a2_3] 34 (0, 0)) (by (with_reducible repeat (first | refine blk_drewN ?_ _ | refine blk_drew ?_ | refine blk_alloc ?_ _)); exact BK331.out)) (below_size (by repeat (first | (with_reducible first | exact HB.out | apply below_alloc | apply pw_below_drewN | apply below_drew1 | refine below_set ?_ GE330.out | refine below_set ?_ GE331.out) | exact HB.out))))
              have n3_ := Aside0.mk (blk_below (g := gb330) (o := .cells #[.int .i64 a1_0, .int .i64 a1_1, .int .u64 a1_2, .string a1_3] 34 (0, 0)) (by (with_reducible repeat (first | refine blk_drewN ?_ _ | refine blk_drew ?_ | refine blk_alloc ?_ _)); exact BK330.out) hb)
              have n4_ := Aside0.mk (blk_below (g := gb331) (o := .cells #[.int .i64 a2_0, .int .i64 a2_1, .int .u64 a2_2, .string a2_3] 34 (0, 0)) (by (with_reducible repeat (first | refine blk_drewN ?_ _ | refine blk_drew ?_ | refine blk_alloc ?_ _)); exact BK331.out) hb)
              have n5_ := Aside0.mk (below_step (by repeat (first | (with_reducible first | exact HB.out | apply below_alloc | apply pw_below_drewN | apply below_drew1 | refine below_set ?_ GE330.out | refine below_set ?_ GE331.out) | exact HB.out)) hb)
              clear HO340
              clear HO343
              clear BK330
              clear BK331
              clear HB
              have HO340 := n0_
              have HO343 := n1_
              have HO352 := n2_
              have BK330 := n3_
              have BK331 := n4_
              have HB := n5_
              clear n0_ n1_ n2_ n3_ n4_ n5_
              clear hb ho22
              refine hK.out _ _ ⟨(blk_cell BK331.out 0).trans rfl, (blk_cell BK331.out 1).trans rfl, (blk_cell BK331.out 2).trans rfl, (blk_cell BK331.out 3).trans rfl⟩ (fun hHeld => ?_)
              clear hK K
              refine norm_ (a' := ?_) ?_ ?_
              rotate_left
              · show Act.put _ (some 19) _ = _
                simp only [Act.put, List.setIfInBounds_toArray, List.set_cons_zero, List.set_cons_succ, i64_w, i32_w]
                rfl
              refine one_ (i := 0) (N := some 15) #[true, true, false, true, true, false, false] rfl rfl (by kernel_rfl) (by decide) (fun K hK => ?_)
              refine Kd.R_lit_step k34 _ 34 ?hg (N := 15) ?hd (xs := ([] : List (S34))) (inner := []) (ok := fun _ => True) (okp := fun _ => True) ?hr ?hp (fun _ hk => hk) trivial (Below.refl _ _) (Nat.le_refl _) (by simp) ?_; (case hd => rfl); (case hg => rfl); (case hr => first | (go_simp; done) | (go_simp; rfl)); (case hp => exact (Reps.none _ _))
              intro v345 w23 ho24 hb hg_ hnew_
              clear hg_ hnew_
              (first | rw [← Ny344.out] at ho24 | (simp only [Int.reduceToNat] at ho24; rw [← Ny344.out] at ho24))
              have n0_ := Aside0.mk (Kd.R_elder' (by (with_reducible repeat (first | apply Kd.R_alloc | apply Kd.R_drewN | apply Kd.R_drew)); exact HO340.out) (Kd.R_base ho24) hb)
              have n1_ := Aside0.mk (Kd.R_elder' (by (with_reducible repeat (first | apply Kd.R_alloc | apply Kd.R_drewN | apply Kd.R_drew)); exact HO343.out) (Kd.R_base ho24) hb)
              have n2_ := Aside0.mk (Kd.R_elder' (by (with_reducible repeat (first | apply Kd.R_alloc | apply Kd.R_drewN | apply Kd.R_drew)); exact HO352.out) (Kd.R_base ho24) hb)
              have n3_ := Aside0.mk (Kd.R_lower (Kd.R_newB (Kd.R_newB (Kd.R_new' (Kd.R_new' (Kd.R_new' ho24 (Kd.R_lt (by (with_reducible repeat (first | apply Kd.R_alloc | apply Kd.R_drewN | apply Kd.R_drew)); exact HO340.out))) (Kd.R_lt (by (with_reducible repeat (first | apply Kd.R_alloc | apply Kd.R_drewN | apply Kd.R_drew)); exact HO343.out))) (Kd.R_lt (by (with_reducible repeat (first | apply Kd.R_alloc | apply Kd.R_drewN | apply Kd.R_drew)); exact HO352.out))) (g := gb330) (o := .cells #[.int .i64 a1_0, .int .i64 a1_1, .int .u64 a1_2, .string a1_3] 34 (0, 0)) (by (with_reducible repeat (first | refine blk_drewN ?_ _ | refine blk_drew ?_ | refine blk_alloc ?_ _)); exact BK330.out)) (g := gb331) (o := .cells #[.int .i64 a2_0, .int .i64 a2_1, .int .u64 a2_2, .string a2_3] 34 (0, 0)) (by (with_reducible repeat (first | refine blk_drewN ?_ _ | refine blk_drew ?_ | refine blk_alloc ?_ _)); exact BK331.out)) (below_size (by repeat (first | (with_reducible first | exact HB.out | apply below_alloc | apply pw_below_drewN | apply below_drew1 | refine below_set ?_ GE330.out | refine below_set ?_ GE331.out) | exact HB.out))))
              have n4_ := Aside0.mk (blk_below (g := gb330) (o := .cells #[.int .i64 a1_0, .int .i64 a1_1, .int .u64 a1_2, .string a1_3] 34 (0, 0)) (by (with_reducible repeat (first | refine blk_drewN ?_ _ | refine blk_drew ?_ | refine blk_alloc ?_ _)); exact BK330.out) hb)
              have n5_ := Aside0.mk (blk_below (g := gb331) (o := .cells #[.int .i64 a2_0, .int .i64 a2_1, .int .u64 a2_2, .string a2_3] 34 (0, 0)) (by (with_reducible repeat (first | refine blk_drewN ?_ _ | refine blk_drew ?_ | refine blk_alloc ?_ _)); exact BK331.out) hb)
              have n6_ := Aside0.mk (below_step (by repeat (first | (with_reducible first | exact HB.out | apply below_alloc | apply pw_below_drewN | apply below_drew1 | refine below_set ?_ GE330.out | refine below_set ?_ GE331.out) | exact HB.out)) hb)
              clear HO340
              clear HO343
              clear HO352
              clear BK330
              clear BK331
              clear HB
              have HO340 := n0_
              have HO343 := n1_
              have HO352 := n2_
              have HO346 := n3_
              have BK330 := n4_
              have BK331 := n5_
              have HB := n6_
              clear n0_ n1_ n2_ n3_ n4_ n5_ n6_
              clear hb ho24
              refine hK.out _ _ ⟨(blk_cell BK331.out 0).trans rfl, (blk_cell BK331.out 1).trans rfl, (blk_cell BK331.out 2).trans rfl, (blk_cell BK331.out 3).trans rfl⟩ (fun hHeld => ?_)
              clear hK K
              refine norm_ (a' := ?_) ?_ ?_
              rotate_left
              · show Act.put _ (some 15) _ = _
                simp only [Act.put, List.setIfInBounds_toArray, List.set_cons_zero, List.set_cons_succ, i64_w, i32_w]
                rfl
              refine one_ (i := 2) (N := some 17) #[true, true, true, true, true, false, false] rfl rfl (by kernel_rfl) (by decide) (fun K hK => ?_)
              refine Kd.R_append_rows_step k34 (w0 := w) w.heap.size (by rfl) (.tmp 15) (.tmp 16) 22 34 (.agg #[(.int .i64 0), (.int .i64 0), (.int .u64 0), (.string ⟨#[]⟩)]) 40 rfl Tryd.underlying22 info34 rfl (by decide) (by omega) v345 y344 l0 _ _ _ (fun k_ => some k_ ≠ (.slice Ao19 y338.length co19 : Value).ownBlock ∧ some k_ ≠ (v342 : Value).ownBlock ∧ some k_ ≠ (v351 : Value).ownBlock ∧ k_ ≠ gb330 ∧ k_ ≠ gb331) (fun _ => False) rfl rfl ?aO ?aR (fun _ _ h => h) (fun _ h => h.elim) ?aF ?aB ?aS ?aL ?_
              (case aR => repeat (first | exact (Kd.C_below HR0.out HB.out) | (with_reducible refine Kd.C_alloc ?_ _) | (with_reducible refine Kd.C_drewN ?_ _) | (with_reducible refine Kd.C_drew ?_)))
              (case aB => exact (by repeat (first | (with_reducible first | exact HB.out | apply below_alloc | apply pw_below_drewN | apply below_drew1 | refine below_set ?_ GE330.out | refine below_set ?_ GE331.out) | exact HB.out)))
              (case aF => exact (fun k_ hk => ⟨Kd.fresh' (Kd.R_lt (by (with_reducible repeat (first | apply Kd.R_alloc | apply Kd.R_drewN | apply Kd.R_drew)); exact HO340.out)) k_ hk, Kd.fresh' (Kd.R_lt (by (with_reducible repeat (first | apply Kd.R_alloc | apply Kd.R_drewN | apply Kd.R_drew)); exact HO343.out)) k_ hk, Kd.fresh' (Kd.R_lt (by (with_reducible repeat (first | apply Kd.R_alloc | apply Kd.R_drewN | apply Kd.R_drew)); exact HO352.out)) k_ hk, Kd.freshB (g := gb330) (o := .cells #[.int .i64 a1_0, .int .i64 a1_1, .int .u64 a1_2, .string a1_3] 34 (0, 0)) (by (with_reducible repeat (first | refine blk_drewN ?_ _ | refine blk_drew ?_ | refine blk_alloc ?_ _)); exact BK330.out) k_ hk, Kd.freshB (g := gb331) (o := .cells #[.int .i64 a2_0, .int .i64 a2_1, .int .u64 a2_2, .string a2_3] 34 (0, 0)) (by (with_reducible repeat (first | refine blk_drewN ?_ _ | refine blk_drew ?_ | refine blk_alloc ?_ _)); exact BK331.out) k_ hk⟩))
              (case aO => exact (by (with_reducible repeat (first | apply Kd.R_alloc | apply Kd.R_drewN | apply Kd.R_drew)); exact Kd.R_mono HO346.out (fun _ hk => ⟨hk.1.1.1.1.2, ⟨hk.1.1.1.2, ⟨hk.1.1.2, ⟨hk.1.2, hk.2⟩⟩⟩⟩)))
              (case aS => exact (below_size (by repeat (first | (with_reducible first | exact HB.out | apply below_alloc | apply pw_below_drewN | apply below_drew1 | refine below_set ?_ GE330.out | refine below_set ?_ GE331.out) | exact HB.out))))
              (case aL => have := LMc6.out; omega)
              intro v348 w25 ho hb hg hat
              rw [← Ny347.out] at ho
              have n0_ := Aside0.mk (blk_grown (g := gb330) (o := .cells #[.int .i64 a1_0, .int .i64 a1_1, .int .u64 a1_2, .string a1_3] 34 (0, 0)) (by (with_reducible repeat (first | refine blk_drewN ?_ _ | refine blk_drew ?_ | refine blk_alloc ?_ _)); exact BK330.out) hg (Kd.R_away HO346.out (fun _ hk => hk.1.2)))
              have n1_ := Aside0.mk (blk_grown (g := gb331) (o := .cells #[.int .i64 a2_0, .int .i64 a2_1, .int .u64 a2_2, .string a2_3] 34 (0, 0)) (by (with_reducible repeat (first | refine blk_drewN ?_ _ | refine blk_drew ?_ | refine blk_alloc ?_ _)); exact BK331.out) hg (Kd.R_away HO346.out (fun _ hk => hk.2)))
              have n2_ := Aside0.mk (Kd.R_after (ok := (fun k_ => some k_ ≠ (v342 : Value).ownBlock ∧ some k_ ≠ (v351 : Value).ownBlock ∧ k_ ≠ gb330 ∧ k_ ≠ gb331)) (by (with_reducible repeat (first | apply Kd.R_alloc | apply Kd.R_drewN | apply Kd.R_drew)); exact Kd.R_mono HO340.out (fun _ hk => ⟨⟨hk.1.1.2, ⟨hk.1.2, ⟨hk.1.1.1.1, hk.1.1.1.2⟩⟩⟩, hk.2⟩)) hg hat)
              have n3_ := Aside0.mk (Kd.R_after (ok := (fun k_ => some k_ ≠ (.slice Ao19 y338.length co19 : Value).ownBlock ∧ some k_ ≠ (v351 : Value).ownBlock ∧ k_ ≠ gb330 ∧ k_ ≠ gb331)) (by (with_reducible repeat (first | apply Kd.R_alloc | apply Kd.R_drewN | apply Kd.R_drew)); exact Kd.R_mono HO343.out (fun _ hk => ⟨⟨hk.1.1.1, ⟨hk.1.2, ⟨hk.1.1.2.1, hk.1.1.2.2⟩⟩⟩, hk.2⟩)) hg hat)
              have n4_ := Aside0.mk (Kd.R_after (ok := (fun k_ => some k_ ≠ (.slice Ao19 y338.length co19 : Value).ownBlock ∧ some k_ ≠ (v342 : Value).ownBlock ∧ k_ ≠ gb330 ∧ k_ ≠ gb331)) (by (with_reducible repeat (first | apply Kd.R_alloc | apply Kd.R_drewN | apply Kd.R_drew)); exact Kd.R_mono HO352.out (fun _ hk => ⟨⟨hk.1.1.1.1.2, ⟨hk.1.1.1.2, ⟨hk.1.1.2, hk.1.2⟩⟩⟩, hk.2⟩)) hg hat)
              have n5_ := Aside0.mk (hb)
              have n6_ := Aside0.mk (ho)
              clear BK330
              clear BK331
              clear HO340
              clear HO343
              clear HO352
              clear HB
              clear HO346
              have BK330 := n0_
              have BK331 := n1_
              have HO340 := n2_
              have HO343 := n3_
              have HO352 := n4_
              have HB := n5_
              have HO349 := n6_
              clear n0_ n1_ n2_ n3_ n4_ n5_ n6_
              clear ho hb hg hat
              refine hK.out _ _ ⟨(blk_cell BK331.out 0).trans rfl, (blk_cell BK331.out 1).trans rfl, (blk_cell BK331.out 2).trans rfl, (blk_cell BK331.out 3).trans rfl⟩ (fun hHeld => ?_)
              clear hK K
              refine norm_ (a' := ?_) ?_ ?_
              rotate_left
              · show Act.put _ (some 17) _ = _
                simp only [Act.put, List.setIfInBounds_toArray, List.set_cons_zero, List.set_cons_succ, i64_w, i32_w]
                rfl
              exact norm_ (by simp only [putAll, Act.put, List.setIfInBounds_toArray, List.set_cons_zero, List.set_cons_succ]) (hCont (v345, v348, v351) _ ⟨hHeld, (by (with_reducible repeat (first | apply Kd.R_alloc | apply Kd.R_drewN | apply Kd.R_drew)); exact Kd.R_mono HO340.out (fun _ hk => ⟨hk.1.1, ⟨hk.2, ⟨hk.1.2.1, ⟨hk.1.2.2.1, hk.1.2.2.2⟩⟩⟩⟩)), (by (with_reducible repeat (first | apply Kd.R_alloc | apply Kd.R_drewN | apply Kd.R_drew)); exact Kd.R_mono HO343.out (fun _ hk => ⟨hk.1.1, ⟨hk.2, ⟨hk.1.2.1, ⟨hk.1.2.2.1, hk.1.2.2.2⟩⟩⟩⟩)), (by (with_reducible repeat (first | apply Kd.R_alloc | apply Kd.R_drewN | apply Kd.R_drew)); exact HO349.out), (by (with_reducible repeat (first | apply Kd.R_alloc | apply Kd.R_drewN | apply Kd.R_drew)); exact Kd.R_mono HO352.out (fun _ hk => ⟨hk.1.1, ⟨hk.1.2.1, ⟨hk.2, ⟨hk.1.2.2.1, hk.1.2.2.2⟩⟩⟩⟩)), (by (with_reducible repeat (first | refine blk_drewN ?_ _ | refine blk_drew ?_ | refine blk_alloc ?_ _)); exact BK330.out), (by (with_reducible repeat (first | refine blk_drewN ?_ _ | refine blk_drew ?_ | refine blk_alloc ?_ _)); exact BK331.out), (by repeat (first | (with_reducible first | exact HB.out | apply below_alloc | apply pw_below_drewN | apply below_drew1 | refine below_set ?_ GE330.out | refine below_set ?_ GE331.out) | exact HB.out))⟩)
          rintro ⟨v345, v348, v351⟩ w26 ⟨hS_, h0_, h1_, h2_, h3_, h4_, h5_, h6_⟩
          have n0_ : Aside0 (Kd.R k34 34 w26 w.heap.size (fun k_ => some k_ ≠ (v342 : Value).ownBlock ∧ some k_ ≠ (v348 : Value).ownBlock ∧ some k_ ≠ (v351 : Value).ownBlock ∧ k_ ≠ gb330 ∧ k_ ≠ gb331) (.slice Ao19 y338.length co19) y338) := ⟨h0_⟩
          have n1_ : Aside0 (Kd.R k34 34 w26 w.heap.size (fun k_ => some k_ ≠ (.slice Ao19 y338.length co19 : Value).ownBlock ∧ some k_ ≠ (v348 : Value).ownBlock ∧ some k_ ≠ (v351 : Value).ownBlock ∧ k_ ≠ gb330 ∧ k_ ≠ gb331) v342 y341) := ⟨h1_⟩
          have n2_ : Aside0 (Kd.R k34 34 w26 w.heap.size (fun k_ => some k_ ≠ (.slice Ao19 y338.length co19 : Value).ownBlock ∧ some k_ ≠ (v342 : Value).ownBlock ∧ some k_ ≠ (v351 : Value).ownBlock ∧ k_ ≠ gb330 ∧ k_ ≠ gb331) v348 y347) := ⟨h2_⟩
          have n3_ : Aside0 (Kd.R k34 34 w26 w.heap.size (fun k_ => some k_ ≠ (.slice Ao19 y338.length co19 : Value).ownBlock ∧ some k_ ≠ (v342 : Value).ownBlock ∧ some k_ ≠ (v348 : Value).ownBlock ∧ k_ ≠ gb330 ∧ k_ ≠ gb331) v351 y350) := ⟨h3_⟩
          have n4_ : Aside0 (w26.heap[gb330]? = some (.cells #[.int .i64 a1_0, .int .i64 a1_1, .int .u64 a1_2, .string a1_3] 34 (0, 0))) := ⟨h4_⟩
          have n5_ : Aside0 (w26.heap[gb331]? = some (.cells #[.int .i64 a2_0, .int .i64 a2_1, .int .u64 a2_2, .string a2_3] 34 (0, 0))) := ⟨h5_⟩
          have n6_ : Aside0 (Below w.heap.size w w26) := ⟨h6_⟩
          clear HO340
          clear HO343
          clear BK330
          clear BK331
          clear HB
          clear h0_ h1_ h2_ h3_ h4_ h5_ h6_
          have HO340 := n0_
          have HO343 := n1_
          have HO349 := n2_
          have HO352 := n3_
          have BK330 := n4_
          have BK331 := n5_
          have HB := n6_
          clear n0_ n1_ n2_ n3_ n4_ n5_ n6_
          have hHeld : w26.cell? ⟨gb331, 0, none⟩ = some (.int .i64 a2_0) ∧ w26.cell? ⟨gb331, 1, none⟩ = some (.int .i64 a2_1) ∧ w26.cell? ⟨gb331, 2, none⟩ = some (.int .u64 a2_2) ∧ w26.cell? ⟨gb331, 3, none⟩ = some (.string a2_3) := hS_
          obtain ⟨Ao28, co28, eo28⟩ := Kd.R_slice HO352.out
          (first | subst eo28 | (injection eo28 with f1_ f2_ f3_; have f4_ := f1_.symm; have f5_ := f3_.symm; clear f1_ f2_ f3_; subst f4_; subst f5_))
          refine norm_ (a' := ?_) ?_ ?_
          rotate_left
          · simp only [putAll, Act.put, List.setIfInBounds_toArray, List.set_cons_zero, List.set_cons_succ]
            rfl
          refine one_ (i := 5) (N := some 20) #[true, true, true, true, true, true, false] rfl rfl (by kernel_rfl) (by decide) (fun K hK => ?_)
          refine Kd.R_append_rows_step k34 (w0 := w) w.heap.size (by rfl) (.tmp 17) (.tmp 19) 22 34 (.agg #[(.int .i64 0), (.int .i64 0), (.int .u64 0), (.string ⟨#[]⟩)]) 40 rfl Tryd.underlying22 info34 rfl (by decide) (by omega) v348 y347 y350 _ _ _ (fun k_ => some k_ ≠ (.slice Ao19 y338.length co19 : Value).ownBlock ∧ some k_ ≠ (v342 : Value).ownBlock ∧ some k_ ≠ (.slice Ao28 y350.length co28 : Value).ownBlock ∧ k_ ≠ gb330 ∧ k_ ≠ gb331) (fun _ => False) rfl rfl ?aO ?aR (fun _ _ h => h) (fun _ h => h.elim) ?aF ?aB ?aS ?aL ?_
          (case aR => repeat (first | exact (Kd.R_reads' HO352.out).2.2 | (with_reducible refine Kd.C_alloc ?_ _) | (with_reducible refine Kd.C_drewN ?_ _) | (with_reducible refine Kd.C_drew ?_)))
          (case aB => exact (by repeat (first | (with_reducible first | exact HB.out | apply below_alloc | apply pw_below_drewN | apply below_drew1 | refine below_set ?_ GE330.out | refine below_set ?_ GE331.out) | exact HB.out)))
          (case aF => exact (fun k_ hk => ⟨Kd.fresh' (Kd.R_lt (by (with_reducible repeat (first | apply Kd.R_alloc | apply Kd.R_drewN | apply Kd.R_drew)); exact HO340.out)) k_ hk, Kd.fresh' (Kd.R_lt (by (with_reducible repeat (first | apply Kd.R_alloc | apply Kd.R_drewN | apply Kd.R_drew)); exact HO343.out)) k_ hk, Kd.fresh' (Kd.R_lt (by (with_reducible repeat (first | apply Kd.R_alloc | apply Kd.R_drewN | apply Kd.R_drew)); exact HO352.out)) k_ hk, Kd.freshB (g := gb330) (o := .cells #[.int .i64 a1_0, .int .i64 a1_1, .int .u64 a1_2, .string a1_3] 34 (0, 0)) (by (with_reducible repeat (first | refine blk_drewN ?_ _ | refine blk_drew ?_ | refine blk_alloc ?_ _)); exact BK330.out) k_ hk, Kd.freshB (g := gb331) (o := .cells #[.int .i64 a2_0, .int .i64 a2_1, .int .u64 a2_2, .string a2_3] 34 (0, 0)) (by (with_reducible repeat (first | refine blk_drewN ?_ _ | refine blk_drew ?_ | refine blk_alloc ?_ _)); exact BK331.out) k_ hk⟩))
          (case aO => exact (by (with_reducible repeat (first | apply Kd.R_alloc | apply Kd.R_drewN | apply Kd.R_drew)); exact HO349.out))
          (case aS => exact (below_size (by repeat (first | (with_reducible first | exact HB.out | apply below_alloc | apply pw_below_drewN | apply below_drew1 | refine below_set ?_ GE330.out | refine below_set ?_ GE331.out) | exact HB.out))))
          (case aL => have := LMc7.out; omega)
          intro v354 w27 ho hb hg hat
          rw [← Ny353.out] at ho
          have n0_ := Aside0.mk (blk_grown (g := gb330) (o := .cells #[.int .i64 a1_0, .int .i64 a1_1, .int .u64 a1_2, .string a1_3] 34 (0, 0)) (by (with_reducible repeat (first | refine blk_drewN ?_ _ | refine blk_drew ?_ | refine blk_alloc ?_ _)); exact BK330.out) hg (Kd.R_away HO349.out (fun _ hk => hk.2.2.2.1)))
          have n1_ := Aside0.mk (blk_grown (g := gb331) (o := .cells #[.int .i64 a2_0, .int .i64 a2_1, .int .u64 a2_2, .string a2_3] 34 (0, 0)) (by (with_reducible repeat (first | refine blk_drewN ?_ _ | refine blk_drew ?_ | refine blk_alloc ?_ _)); exact BK331.out) hg (Kd.R_away HO349.out (fun _ hk => hk.2.2.2.2)))
          have n2_ := Aside0.mk (Kd.R_after (ok := (fun k_ => some k_ ≠ (v342 : Value).ownBlock ∧ some k_ ≠ (.slice Ao28 y350.length co28 : Value).ownBlock ∧ k_ ≠ gb330 ∧ k_ ≠ gb331)) (by (with_reducible repeat (first | apply Kd.R_alloc | apply Kd.R_drewN | apply Kd.R_drew)); exact Kd.R_mono HO340.out (fun _ hk => ⟨⟨hk.1, ⟨hk.2.2.1, ⟨hk.2.2.2.1, hk.2.2.2.2⟩⟩⟩, hk.2.1⟩)) hg hat)
          have n3_ := Aside0.mk (Kd.R_after (ok := (fun k_ => some k_ ≠ (.slice Ao19 y338.length co19 : Value).ownBlock ∧ some k_ ≠ (.slice Ao28 y350.length co28 : Value).ownBlock ∧ k_ ≠ gb330 ∧ k_ ≠ gb331)) (by (with_reducible repeat (first | apply Kd.R_alloc | apply Kd.R_drewN | apply Kd.R_drew)); exact Kd.R_mono HO343.out (fun _ hk => ⟨⟨hk.1, ⟨hk.2.2.1, ⟨hk.2.2.2.1, hk.2.2.2.2⟩⟩⟩, hk.2.1⟩)) hg hat)
          have n4_ := Aside0.mk (Kd.R_after (ok := (fun k_ => some k_ ≠ (.slice Ao19 y338.length co19 : Value).ownBlock ∧ some k_ ≠ (v342 : Value).ownBlock ∧ k_ ≠ gb330 ∧ k_ ≠ gb331)) (by (with_reducible repeat (first | apply Kd.R_alloc | apply Kd.R_drewN | apply Kd.R_drew)); exact Kd.R_mono HO352.out (fun _ hk => ⟨⟨hk.1, ⟨hk.2.1, ⟨hk.2.2.2.1, hk.2.2.2.2⟩⟩⟩, hk.2.2.1⟩)) hg hat)
          have n5_ := Aside0.mk (hb)
          have n6_ := Aside0.mk (ho)
          clear BK330
          clear BK331
          clear HO340
          clear HO343
          clear HO352
          clear HB
          clear HO349
          have BK330 := n0_
          have BK331 := n1_
          have HO340 := n2_
          have HO343 := n3_
          have HO352 := n4_
          have HB := n5_
          have HO355 := n6_
          clear n0_ n1_ n2_ n3_ n4_ n5_ n6_
          clear ho hb hg hat
          refine hK.out _ _ ⟨(blk_cell BK331.out 0).trans rfl, (blk_cell BK331.out 1).trans rfl, (blk_cell BK331.out 2).trans rfl, (blk_cell BK331.out 3).trans rfl⟩ (fun hHeld => ?_)
          clear hK K
          refine norm_ (a' := ?_) ?_ ?_
          rotate_left
          · show Act.put _ (some 20) _ = _
            simp only [Act.put, List.setIfInBounds_toArray, List.set_cons_zero, List.set_cons_succ, i64_w, i32_w]
            rfl
          refine pure_ (i := 6) (N := some 8) (v := ?_) (a' := ?_) #[true, true, true, true, true, true, true] rfl rfl (by kernel_rfl) (fun _ _ _ h => h) (Or.inl ⟨by rfl, ?_⟩) ?_ ?_
          rotate_left
          · intro w'
            go_simp
            with_reducible rfl
          rotate_left
          · simp only [Act.put, List.setIfInBounds_toArray, List.set_cons_zero, List.set_cons_succ, i64_w, i32_w]
            rfl
          refine done_ (by kernel_rfl) ?_
          go_upto_region 3 with (fail)
          go_cut [32] (fun v32 wc => ∃ (kq : Nat) (x32_7 : Bool), v32 = .bool x32_7 ∧ Aside0 (rhizomelaw03_KeysLast.j0 kq y341 y353 x32_7 a1_0 a1_1 a1_2 a1_3 a2_0 a2_1 a2_2 a2_3 = some true) ∧ Aside0 (kq ≤ k) ∧ Aside0 (Kd.R k34 34 wc w.heap.size (fun k_ => some k_ ≠ (v354 : Value).ownBlock ∧ k_ ≠ gb330 ∧ k_ ≠ gb331) v342 y341) ∧ Aside0 (Kd.R k34 34 wc w.heap.size (fun k_ => some k_ ≠ (v342 : Value).ownBlock ∧ k_ ≠ gb330 ∧ k_ ≠ gb331) v354 y353) ∧ Aside0 (wc.heap[gb330]? = some (.cells #[.int .i64 a1_0, .int .i64 a1_1, .int .u64 a1_2, .string a1_3] 34 (0, 0))) ∧ Aside0 (wc.heap[gb331]? = some (.cells #[.int .i64 a2_0, .int .i64 a2_1, .int .u64 a2_2, .string a2_3] 34 (0, 0))) ∧ Aside0 (Below w.heap.size w wc))
          case first =>
            have H := HC8.out
            clear HC8
            replace H := Option.bind_eq_some_iff.mp H
            obtain ⟨t356, A290, H⟩ := H
            replace H : (if t356 = true then ((keys_Check.f k y341).bind fun t357 => (if t357 = 0 then ((keys_Check.f k y353).bind fun t358 => (rhizomelaw03_KeysLast.j0 k y341 y353 (t358 != 0) a1_0 a1_1 a1_2 a1_3 a2_0 a2_1 a2_2 a2_3)) else (rhizomelaw03_KeysLast.j0 k y341 y353 true a1_0 a1_1 a1_2 a1_3 a2_0 a2_1 a2_2 a2_3))) else (rhizomelaw03_KeysLast.j0 k y341 y353 true a1_0 a1_1 a1_2 a1_3 a2_0 a2_1 a2_2 a2_3)) = some true := H
            have A29 := Aside0.mk A290
            clear A290
            by_cases c30 : t356 = true
            · subst c30
              have H1 : ((keys_Check.f k y341).bind fun t357 => (if t357 = 0 then ((keys_Check.f k y353).bind fun t358 => (rhizomelaw03_KeysLast.j0 k y341 y353 (t358 != 0) a1_0 a1_1 a1_2 a1_3 a2_0 a2_1 a2_2 a2_3)) else (rhizomelaw03_KeysLast.j0 k y341 y353 true a1_0 a1_1 a1_2 a1_3 a2_0 a2_1 a2_2 a2_3))) = some true := by rw [if_pos rfl] at H; exact H
              clear H
              have H := H1
              clear H1
              replace H := Option.bind_eq_some_iff.mp H
              obtain ⟨t357, A310, H⟩ := H
              replace H : (if t357 = 0 then ((keys_Check.f k y353).bind fun t358 => (rhizomelaw03_KeysLast.j0 k y341 y353 (t358 != 0) a1_0 a1_1 a1_2 a1_3 a2_0 a2_1 a2_2 a2_3)) else (rhizomelaw03_KeysLast.j0 k y341 y353 true a1_0 a1_1 a1_2 a1_3 a2_0 a2_1 a2_2 a2_3)) = some true := H
              have A31 := Aside0.mk A310
              clear A310
              by_cases c32 : t357 = 0
              · rw [if_pos c32] at H
                have c32b0 : (t357 == 0) = true := beq_iff_eq.mpr c32
                have c32b1 : (t357 != 0) = false := bne_eq_false_iff_eq.mpr c32
                clear c32
                (first | rw [c32b0] | (simp only [i64_w, i32_w]; rw [c32b0]) | skip)
                replace H := Option.bind_eq_some_iff.mp H
                obtain ⟨t358, A330, H⟩ := H
                replace H : (rhizomelaw03_KeysLast.j0 k y341 y353 (t358 != 0) a1_0 a1_1 a1_2 a1_3 a2_0 a2_1 a2_2 a2_3) = some true := H
                have A33 := Aside0.mk A330
                clear A330
                have H' := Aside0.mk H
                clear H
                go_wp2_with (first | ((with_reducible refine gate_callee (f := 13) rfl ?_); refine goesL_ (some 21) rfl rfl Tryd.func13 (by kernel_rfl) rfl #[] rfl (by (try simp only [List.map_toArray, List.map_cons, List.map_nil]); first | done | rfl | (simp only [List.length_drop, List.length_take]; rfl)) ?_; (with_reducible refine (rhizomelaw03_fixed.calls k  true _ A29.out).mono ?_); rintro e w34 ⟨rfl, hb⟩; refine ⟨_, rfl, ?_⟩; have n0_ := Aside0.mk (Kd.R_below (by (with_reducible repeat (first | apply Kd.R_alloc | apply Kd.R_drewN | apply Kd.R_drew)); exact HO340.out) hb); have n1_ := Aside0.mk (Kd.R_below (by (with_reducible repeat (first | apply Kd.R_alloc | apply Kd.R_drewN | apply Kd.R_drew)); exact HO343.out) hb); have n2_ := Aside0.mk (Kd.R_below (by (with_reducible repeat (first | apply Kd.R_alloc | apply Kd.R_drewN | apply Kd.R_drew)); exact HO352.out) hb); have n3_ := Aside0.mk (Kd.R_below (by (with_reducible repeat (first | apply Kd.R_alloc | apply Kd.R_drewN | apply Kd.R_drew)); exact HO355.out) hb); have n4_ := Aside0.mk (blk_below (g := gb330) (o := .cells #[.int .i64 a1_0, .int .i64 a1_1, .int .u64 a1_2, .string a1_3] 34 (0, 0)) (by (with_reducible repeat (first | refine blk_drewN ?_ _ | refine blk_drew ?_ | refine blk_alloc ?_ _)); exact BK330.out) hb); have n5_ := Aside0.mk (blk_below (g := gb331) (o := .cells #[.int .i64 a2_0, .int .i64 a2_1, .int .u64 a2_2, .string a2_3] 34 (0, 0)) (by (with_reducible repeat (first | refine blk_drewN ?_ _ | refine blk_drew ?_ | refine blk_alloc ?_ _)); exact BK331.out) hb); have n6_ := Aside0.mk (below_step (by repeat (first | (with_reducible first | exact HB.out | apply below_alloc | apply pw_below_drewN | apply below_drew1 | refine below_set ?_ GE330.out | refine below_set ?_ GE331.out) | exact HB.out)) hb); clear HO340; clear HO343; clear HO352; clear HO355; clear BK330; clear BK331; clear HB; have HO340 := n0_; have HO343 := n1_; have HO352 := n2_; have HO355 := n3_; have BK330 := n4_; have BK331 := n5_; have HB := n6_; clear n0_ n1_ n2_ n3_ n4_ n5_ n6_; (try clear hb); (try clear hb2); (try clear hk); (try clear hi); obtain ⟨Ao35, co35, eo35⟩ := Kd.R_slice HO343.out; subst eo35) | (go_at_call 14; (with_reducible refine (keys_Check.calls k _ _ y341 t357 _ ?side1 ?side2 A31.out).mono ?_); (case side1 => repeat (first | exact (Kd.R_reads' HO343.out).2.2 | (with_reducible refine Kd.C_alloc ?_ _) | (with_reducible refine Kd.C_drewN ?_ _) | (with_reducible refine Kd.C_drew ?_))); (case side2 => exact (Kd.R_reads' HO343.out).2.1); rintro e w36 ⟨rfl, hb⟩; have n0_ := Aside0.mk (Kd.R_below (by (with_reducible repeat (first | apply Kd.R_alloc | apply Kd.R_drewN | apply Kd.R_drew)); exact HO340.out) hb); have n1_ := Aside0.mk (Kd.R_below (by (with_reducible repeat (first | apply Kd.R_alloc | apply Kd.R_drewN | apply Kd.R_drew)); exact HO343.out) hb); have n2_ := Aside0.mk (Kd.R_below (by (with_reducible repeat (first | apply Kd.R_alloc | apply Kd.R_drewN | apply Kd.R_drew)); exact HO352.out) hb); have n3_ := Aside0.mk (Kd.R_below (by (with_reducible repeat (first | apply Kd.R_alloc | apply Kd.R_drewN | apply Kd.R_drew)); exact HO355.out) hb); have n4_ := Aside0.mk (blk_below (g := gb330) (o := .cells #[.int .i64 a1_0, .int .i64 a1_1, .int .u64 a1_2, .string a1_3] 34 (0, 0)) (by (with_reducible repeat (first | refine blk_drewN ?_ _ | refine blk_drew ?_ | refine blk_alloc ?_ _)); exact BK330.out) hb); have n5_ := Aside0.mk (blk_below (g := gb331) (o := .cells #[.int .i64 a2_0, .int .i64 a2_1, .int .u64 a2_2, .string a2_3] 34 (0, 0)) (by (with_reducible repeat (first | refine blk_drewN ?_ _ | refine blk_drew ?_ | refine blk_alloc ?_ _)); exact BK331.out) hb); have n6_ := Aside0.mk (below_step (by repeat (first | (with_reducible first | exact HB.out | apply below_alloc | apply pw_below_drewN | apply below_drew1 | refine below_set ?_ GE330.out | refine below_set ?_ GE331.out) | exact HB.out)) hb); clear HO340; clear HO343; clear HO352; clear HO355; clear BK330; clear BK331; clear HB; have HO340 := n0_; have HO343 := n1_; have HO352 := n2_; have HO355 := n3_; have BK330 := n4_; have BK331 := n5_; have HB := n6_; clear n0_ n1_ n2_ n3_ n4_ n5_ n6_; (try clear hb); (try clear hb2); (try clear hk); (try clear hi); obtain ⟨Ao37, co37, eo37⟩ := Kd.R_slice HO355.out; subst eo37) | (go_at_call 14; (with_reducible refine (keys_Check.calls k _ _ y353 t358 _ ?side1 ?side2 A33.out).mono ?_); (case side1 => repeat (first | exact (Kd.R_reads' HO355.out).2.2 | (with_reducible refine Kd.C_alloc ?_ _) | (with_reducible refine Kd.C_drewN ?_ _) | (with_reducible refine Kd.C_drew ?_))); (case side2 => exact (Kd.R_reads' HO355.out).2.1); rintro e w38 ⟨rfl, hb⟩; have n0_ := Aside0.mk (Kd.R_below (by (with_reducible repeat (first | apply Kd.R_alloc | apply Kd.R_drewN | apply Kd.R_drew)); exact HO340.out) hb); have n1_ := Aside0.mk (Kd.R_below (by (with_reducible repeat (first | apply Kd.R_alloc | apply Kd.R_drewN | apply Kd.R_drew)); exact HO343.out) hb); have n2_ := Aside0.mk (Kd.R_below (by (with_reducible repeat (first | apply Kd.R_alloc | apply Kd.R_drewN | apply Kd.R_drew)); exact HO352.out) hb); have n3_ := Aside0.mk (Kd.R_below (by (with_reducible repeat (first | apply Kd.R_alloc | apply Kd.R_drewN | apply Kd.R_drew)); exact HO355.out) hb); have n4_ := Aside0.mk (blk_below (g := gb330) (o := .cells #[.int .i64 a1_0, .int .i64 a1_1, .int .u64 a1_2, .string a1_3] 34 (0, 0)) (by (with_reducible repeat (first | refine blk_drewN ?_ _ | refine blk_drew ?_ | refine blk_alloc ?_ _)); exact BK330.out) hb); have n5_ := Aside0.mk (blk_below (g := gb331) (o := .cells #[.int .i64 a2_0, .int .i64 a2_1, .int .u64 a2_2, .string a2_3] 34 (0, 0)) (by (with_reducible repeat (first | refine blk_drewN ?_ _ | refine blk_drew ?_ | refine blk_alloc ?_ _)); exact BK331.out) hb); have n6_ := Aside0.mk (below_step (by repeat (first | (with_reducible first | exact HB.out | apply below_alloc | apply pw_below_drewN | apply below_drew1 | refine below_set ?_ GE330.out | refine below_set ?_ GE331.out) | exact HB.out)) hb); clear HO340; clear HO343; clear HO352; clear HO355; clear BK330; clear BK331; clear HB; have HO340 := n0_; have HO343 := n1_; have HO352 := n2_; have HO355 := n3_; have BK330 := n4_; have BK331 := n5_; have HB := n6_; clear n0_ n1_ n2_ n3_ n4_ n5_ n6_; (try clear hb); (try clear hb2); (try clear hk); (try clear hi)))
                go_meet
                case rel => exact ⟨_, ((t358 != 0)), (by first | rfl | (simp; done) | (simp [*]; done)), H', ⟨by first | omega | exact Nat.le_refl _⟩, ⟨by (with_reducible repeat (first | apply Kd.R_alloc | apply Kd.R_drewN | apply Kd.R_drew)); exact Kd.R_mono HO343.out (fun _ hk => ⟨hk.2, ⟨hk.1.2.2.1, hk.1.2.2.2⟩⟩)⟩, ⟨by (with_reducible repeat (first | apply Kd.R_alloc | apply Kd.R_drewN | apply Kd.R_drew)); exact Kd.R_mono HO355.out (fun _ hk => ⟨hk.2.1, ⟨hk.2.2.2.1, hk.2.2.2.2⟩⟩)⟩, ⟨by (with_reducible repeat (first | refine blk_drewN ?_ _ | refine blk_drew ?_ | refine blk_alloc ?_ _)); exact BK330.out⟩, ⟨by (with_reducible repeat (first | refine blk_drewN ?_ _ | refine blk_drew ?_ | refine blk_alloc ?_ _)); exact BK331.out⟩, ⟨by repeat (first | (with_reducible first | exact HB.out | apply below_alloc | apply pw_below_drewN | apply below_drew1 | refine below_set ?_ GE330.out | refine below_set ?_ GE331.out) | exact HB.out)⟩⟩
              · rw [if_neg c32] at H
                have c32b0 : (t357 == 0) = false := beq_eq_false_iff_ne.mpr c32
                have c32b1 : (t357 != 0) = true := bne_iff_ne.mpr c32
                (first | rw [c32b0] | (simp only [i64_w, i32_w]; rw [c32b0]) | skip)
                have H' := Aside0.mk H
                clear H
                go_wp2_with (first | ((with_reducible refine gate_callee (f := 13) rfl ?_); refine goesL_ (some 21) rfl rfl Tryd.func13 (by kernel_rfl) rfl #[] rfl (by (try simp only [List.map_toArray, List.map_cons, List.map_nil]); first | done | rfl | (simp only [List.length_drop, List.length_take]; rfl)) ?_; (with_reducible refine (rhizomelaw03_fixed.calls k  true _ A29.out).mono ?_); rintro e w39 ⟨rfl, hb⟩; refine ⟨_, rfl, ?_⟩; have n0_ := Aside0.mk (Kd.R_below (by (with_reducible repeat (first | apply Kd.R_alloc | apply Kd.R_drewN | apply Kd.R_drew)); exact HO340.out) hb); have n1_ := Aside0.mk (Kd.R_below (by (with_reducible repeat (first | apply Kd.R_alloc | apply Kd.R_drewN | apply Kd.R_drew)); exact HO343.out) hb); have n2_ := Aside0.mk (Kd.R_below (by (with_reducible repeat (first | apply Kd.R_alloc | apply Kd.R_drewN | apply Kd.R_drew)); exact HO352.out) hb); have n3_ := Aside0.mk (Kd.R_below (by (with_reducible repeat (first | apply Kd.R_alloc | apply Kd.R_drewN | apply Kd.R_drew)); exact HO355.out) hb); have n4_ := Aside0.mk (blk_below (g := gb330) (o := .cells #[.int .i64 a1_0, .int .i64 a1_1, .int .u64 a1_2, .string a1_3] 34 (0, 0)) (by (with_reducible repeat (first | refine blk_drewN ?_ _ | refine blk_drew ?_ | refine blk_alloc ?_ _)); exact BK330.out) hb); have n5_ := Aside0.mk (blk_below (g := gb331) (o := .cells #[.int .i64 a2_0, .int .i64 a2_1, .int .u64 a2_2, .string a2_3] 34 (0, 0)) (by (with_reducible repeat (first | refine blk_drewN ?_ _ | refine blk_drew ?_ | refine blk_alloc ?_ _)); exact BK331.out) hb); have n6_ := Aside0.mk (below_step (by repeat (first | (with_reducible first | exact HB.out | apply below_alloc | apply pw_below_drewN | apply below_drew1 | refine below_set ?_ GE330.out | refine below_set ?_ GE331.out) | exact HB.out)) hb); clear HO340; clear HO343; clear HO352; clear HO355; clear BK330; clear BK331; clear HB; have HO340 := n0_; have HO343 := n1_; have HO352 := n2_; have HO355 := n3_; have BK330 := n4_; have BK331 := n5_; have HB := n6_; clear n0_ n1_ n2_ n3_ n4_ n5_ n6_; (try clear hb); (try clear hb2); (try clear hk); (try clear hi); obtain ⟨Ao40, co40, eo40⟩ := Kd.R_slice HO343.out; subst eo40) | (go_at_call 14; (with_reducible refine (keys_Check.calls k _ _ y341 t357 _ ?side1 ?side2 A31.out).mono ?_); (case side1 => repeat (first | exact (Kd.R_reads' HO343.out).2.2 | (with_reducible refine Kd.C_alloc ?_ _) | (with_reducible refine Kd.C_drewN ?_ _) | (with_reducible refine Kd.C_drew ?_))); (case side2 => exact (Kd.R_reads' HO343.out).2.1); rintro e w41 ⟨rfl, hb⟩; have n0_ := Aside0.mk (Kd.R_below (by (with_reducible repeat (first | apply Kd.R_alloc | apply Kd.R_drewN | apply Kd.R_drew)); exact HO340.out) hb); have n1_ := Aside0.mk (Kd.R_below (by (with_reducible repeat (first | apply Kd.R_alloc | apply Kd.R_drewN | apply Kd.R_drew)); exact HO343.out) hb); have n2_ := Aside0.mk (Kd.R_below (by (with_reducible repeat (first | apply Kd.R_alloc | apply Kd.R_drewN | apply Kd.R_drew)); exact HO352.out) hb); have n3_ := Aside0.mk (Kd.R_below (by (with_reducible repeat (first | apply Kd.R_alloc | apply Kd.R_drewN | apply Kd.R_drew)); exact HO355.out) hb); have n4_ := Aside0.mk (blk_below (g := gb330) (o := .cells #[.int .i64 a1_0, .int .i64 a1_1, .int .u64 a1_2, .string a1_3] 34 (0, 0)) (by (with_reducible repeat (first | refine blk_drewN ?_ _ | refine blk_drew ?_ | refine blk_alloc ?_ _)); exact BK330.out) hb); have n5_ := Aside0.mk (blk_below (g := gb331) (o := .cells #[.int .i64 a2_0, .int .i64 a2_1, .int .u64 a2_2, .string a2_3] 34 (0, 0)) (by (with_reducible repeat (first | refine blk_drewN ?_ _ | refine blk_drew ?_ | refine blk_alloc ?_ _)); exact BK331.out) hb); have n6_ := Aside0.mk (below_step (by repeat (first | (with_reducible first | exact HB.out | apply below_alloc | apply pw_below_drewN | apply below_drew1 | refine below_set ?_ GE330.out | refine below_set ?_ GE331.out) | exact HB.out)) hb); clear HO340; clear HO343; clear HO352; clear HO355; clear BK330; clear BK331; clear HB; have HO340 := n0_; have HO343 := n1_; have HO352 := n2_; have HO355 := n3_; have BK330 := n4_; have BK331 := n5_; have HB := n6_; clear n0_ n1_ n2_ n3_ n4_ n5_ n6_; (try clear hb); (try clear hb2); (try clear hk); (try clear hi)))
                go_meet
                case rel => exact ⟨_, (true), (by first | rfl | (simp; done) | (simp [*]; done)), H', ⟨by first | omega | exact Nat.le_refl _⟩, ⟨by (with_reducible repeat (first | apply Kd.R_alloc | apply Kd.R_drewN | apply Kd.R_drew)); exact Kd.R_mono HO343.out (fun _ hk => ⟨hk.2, ⟨hk.1.2.2.1, hk.1.2.2.2⟩⟩)⟩, ⟨by (with_reducible repeat (first | apply Kd.R_alloc | apply Kd.R_drewN | apply Kd.R_drew)); exact Kd.R_mono HO355.out (fun _ hk => ⟨hk.2.1, ⟨hk.2.2.2.1, hk.2.2.2.2⟩⟩)⟩, ⟨by (with_reducible repeat (first | refine blk_drewN ?_ _ | refine blk_drew ?_ | refine blk_alloc ?_ _)); exact BK330.out⟩, ⟨by (with_reducible repeat (first | refine blk_drewN ?_ _ | refine blk_drew ?_ | refine blk_alloc ?_ _)); exact BK331.out⟩, ⟨by repeat (first | (with_reducible first | exact HB.out | apply below_alloc | apply pw_below_drewN | apply below_drew1 | refine below_set ?_ GE330.out | refine below_set ?_ GE331.out) | exact HB.out)⟩⟩
            · exact absurd (fixed_true A29.out) c30
          case rest =>
            clear HC8
            try clear c1
            try clear p2
            try clear c3
            try clear c4
            try clear c5
            try clear c6
            try clear c7
            try clear c13
            try clear c30
            try clear c32
            try clear c32b0
            try clear c32b1
            obtain ⟨kq, x32_7, rfl, HA, HJ7, HO_7, HO_8, BK330, BK331, HB⟩ := hcut
            cases kq with
            | zero => exact absurd HA.out (by simp [rhizomelaw03_KeysLast.j0])
            | succ kj7 =>
              have H := HA.out
              clear HA
              simp only [rhizomelaw03_KeysLast.j0] at H
              by_cases c43 : x32_7 = true
              · subst c43
                have H1 : ((rhizomelaw03_fixed.f kj7).bind fun t359 => (some t359)) = some true := by rw [if_pos rfl] at H; exact H
                clear H
                have H := H1
                clear H1
                replace H := Option.bind_eq_some_iff.mp H
                obtain ⟨t359, A440, H⟩ := H
                replace H : (some t359) = some true := H
                have A44 := Aside0.mk A440
                clear A440
                first | (obtain rfl := Option.some.inj H) | (have HR_ := Option.some.inj H)
                go_wp2_with (first | ((with_reducible refine gate_callee (f := 13) rfl ?_); refine goesL_ (some 33) rfl rfl Tryd.func13 (by kernel_rfl) rfl #[] rfl (by (try simp only [List.map_toArray, List.map_cons, List.map_nil]); first | done | rfl | (simp only [List.length_drop, List.length_take]; rfl)) ?_; (with_reducible refine (rhizomelaw03_fixed.calls kj7 true _ (by have h_ := A44.out; have e_ := fixed_true h_; first | exact h_ | (rw [e_] at h_; exact h_))).mono ?_); rintro e w45 ⟨rfl, hb⟩; refine ⟨_, rfl, ?_⟩; have n0_ := Aside0.mk (Kd.R_below (by (with_reducible repeat (first | apply Kd.R_alloc | apply Kd.R_drewN | apply Kd.R_drew)); exact HO_7.out) hb); have n1_ := Aside0.mk (Kd.R_below (by (with_reducible repeat (first | apply Kd.R_alloc | apply Kd.R_drewN | apply Kd.R_drew)); exact HO_8.out) hb); have n2_ := Aside0.mk (blk_below (g := gb330) (o := .cells #[.int .i64 a1_0, .int .i64 a1_1, .int .u64 a1_2, .string a1_3] 34 (0, 0)) (by (with_reducible repeat (first | refine blk_drewN ?_ _ | refine blk_drew ?_ | refine blk_alloc ?_ _)); exact BK330.out) hb); have n3_ := Aside0.mk (blk_below (g := gb331) (o := .cells #[.int .i64 a2_0, .int .i64 a2_1, .int .u64 a2_2, .string a2_3] 34 (0, 0)) (by (with_reducible repeat (first | refine blk_drewN ?_ _ | refine blk_drew ?_ | refine blk_alloc ?_ _)); exact BK331.out) hb); have n4_ := Aside0.mk (below_step (by repeat (first | (with_reducible first | exact HB.out | apply below_alloc | apply pw_below_drewN | apply below_drew1 | refine below_set ?_ GE330.out | refine below_set ?_ GE331.out) | exact HB.out)) hb); clear HO_7; clear HO_8; clear BK330; clear BK331; clear HB; have HO_7 := n0_; have HO_8 := n1_; have BK330 := n2_; have BK331 := n3_; have HB := n4_; clear n0_ n1_ n2_ n3_ n4_; (try clear hb); (try clear hb2); (try clear hk); (try clear hi)))
                go_ret
                exact ⟨by first | rfl | (simp [errW_none, errW_some] <;> rfl) | (simp [*, errW_none, errW_some] <;> rfl), by repeat (first | (with_reducible first | exact HB.out | apply below_alloc | apply pw_below_drewN | apply below_drew1 | refine below_set ?_ GE330.out | refine below_set ?_ GE331.out) | exact HB.out)⟩
              · replace c43 := Bool.eq_false_iff.mpr c43
                subst c43
                have H1 : ((keys_Cmp.f kj7 y341 y353).bind fun t360 => ((keys_Cmp.f kj7 (([(⟨a1_0, a1_1, a1_2, a1_3⟩ : S34)] : List (S34))) (([(⟨a2_0, a2_1, a2_2, a2_3⟩ : S34)] : List (S34)))).bind fun t367 => (some (t360 == t367)))) = some true := by rw [if_neg (show ¬ (false = true) by decide)] at H; exact H
                clear H
                have H := H1
                clear H1
                replace H := Option.bind_eq_some_iff.mp H
                obtain ⟨t360, A460, H⟩ := H
                replace H : ((keys_Cmp.f kj7 (([(⟨a1_0, a1_1, a1_2, a1_3⟩ : S34)] : List (S34))) (([(⟨a2_0, a2_1, a2_2, a2_3⟩ : S34)] : List (S34)))).bind fun t367 => (some (t360 == t367))) = some true := H
                have A46 := Aside0.mk A460
                clear A460
                obtain ⟨y361, hy361⟩ : ∃ y_ : List (S34), y_ = (([(⟨a1_0, a1_1, a1_2, a1_3⟩ : S34)] : List (S34))) := ⟨_, rfl⟩
                replace H : ((keys_Cmp.f kj7 y361 (([(⟨a2_0, a2_1, a2_2, a2_3⟩ : S34)] : List (S34)))).bind fun t367 => (some (t360 == t367))) = some true := by first | (rw [hy361]; with_reducible exact H) | (have H2_ := (Option.bind_some _ _).symm.trans H; rw [hy361]; with_reducible exact H2_) | (have H2_ := (Option.bind_some _ _).symm.trans H; with_reducible exact H2_) | with_reducible exact H | (rw [hy361]; exact H) | exact H
                have Ny361 := Aside0.mk hy361
                clear hy361
                obtain ⟨y364, hy364⟩ : ∃ y_ : List (S34), y_ = (([(⟨a2_0, a2_1, a2_2, a2_3⟩ : S34)] : List (S34))) := ⟨_, rfl⟩
                replace H : ((keys_Cmp.f kj7 y361 y364).bind fun t367 => (some (t360 == t367))) = some true := by first | (rw [hy364]; with_reducible exact H) | (have H2_ := (Option.bind_some _ _).symm.trans H; rw [hy364]; with_reducible exact H2_) | (have H2_ := (Option.bind_some _ _).symm.trans H; with_reducible exact H2_) | with_reducible exact H | (rw [hy364]; exact H) | exact H
                have Ny364 := Aside0.mk hy364
                clear hy364
                replace H := Option.bind_eq_some_iff.mp H
                obtain ⟨t367, A470, H⟩ := H
                replace H : (some (t360 == t367)) = some true := H
                have A47 := Aside0.mk A470
                clear A470
                first | (obtain rfl := Option.some.inj H) | (have HR_ := Option.some.inj H)
                obtain ⟨Ao48, co48, eo48⟩ := Kd.R_slice HO_7.out
                subst eo48
                obtain ⟨Ao49, co49, eo49⟩ := Kd.R_slice HO_8.out
                subst eo49
                try go_wp2
                have n0_ := Aside0.mk (Kd.R_drew HO_7.out)
                have n1_ := Aside0.mk (Kd.R_drew HO_8.out)
                have n2_ := Aside0.mk (blk_drew BK330.out)
                have n3_ := Aside0.mk (blk_drew BK331.out)
                have n4_ := Aside0.mk (below_drew1 HB.out)
                clear HO_7
                clear HO_8
                clear BK330
                clear BK331
                clear HB
                have HO_7 := n0_
                have HO_8 := n1_
                have BK330 := n2_
                have BK331 := n3_
                have HB := n4_
                clear n0_ n1_ n2_ n3_ n4_
                refine start_ (n := 10) (S := fun w' => w'.cell? ⟨gb330, 0, none⟩ = some (.int .i64 a1_0) ∧ w'.cell? ⟨gb330, 1, none⟩ = some (.int .i64 a1_1) ∧ w'.cell? ⟨gb330, 2, none⟩ = some (.int .u64 a1_2) ∧ w'.cell? ⟨gb330, 3, none⟩ = some (.string a1_3) ∧ w'.cell? ⟨gb331, 0, none⟩ = some (.int .i64 a2_0) ∧ w'.cell? ⟨gb331, 1, none⟩ = some (.int .i64 a2_1) ∧ w'.cell? ⟨gb331, 2, none⟩ = some (.int .u64 a2_2) ∧ w'.cell? ⟨gb331, 3, none⟩ = some (.string a2_3)) (ds := []) #[false, false, false, false, false, false, false, false, false, false] (by kernel_rfl) rfl rfl ⟨(blk_cell BK330.out 0).trans rfl, (blk_cell BK330.out 1).trans rfl, (blk_cell BK330.out 2).trans rfl, (blk_cell BK330.out 3).trans rfl, (blk_cell BK331.out 0).trans rfl, (blk_cell BK331.out 1).trans rfl, (blk_cell BK331.out 2).trans rfl, (blk_cell BK331.out 3).trans rfl⟩ (fun hHeld => ?_); refine with_tabW rhizomelaw03_KeysLast.tab5 rhizomelaw03_KeysLast.bits5 (fun HT_ HW_ => ?_)
                generalize wc.drew = w50 at HO_7 HO_8 BK330 BK331 HB hHeld ⊢
                refine pure_ (i := 0) (N := some 34) (v := ?_) (a' := ?_) #[true, false, false, false, false, false, false, false, false, false] rfl rfl (any_of HT_.out (by kernel_rfl)) (fun _ _ _ h => h) (Or.inl ⟨by rfl, ?_⟩) ?_ ?_
                rotate_left
                · intro w'
                  go_simp
                  with_reducible rfl
                rotate_left
                · simp only [Act.put, List.setIfInBounds_toArray, List.set_cons_zero, List.set_cons_succ, i64_w, i32_w]
                  rfl
                refine pure_ (i := 1) (N := some 35) (v := ?_) (a' := ?_) #[true, true, false, false, false, false, false, false, false, false] rfl rfl (any_of HT_.out (by kernel_rfl)) (fun _ _ _ h => h) (Or.inl ⟨by rfl, ?_⟩) ?_ ?_
                rotate_left
                · intro w'
                  go_simp
                  with_reducible rfl
                rotate_left
                · simp only [Act.put, List.setIfInBounds_toArray, List.set_cons_zero, List.set_cons_succ, i64_w, i32_w]
                  rfl
                refine take_ (i := 3) (N := some 37) (v := ?_) (a' := ?_) #[true, true, false, true, false, false, false, false, false, false] rfl rfl (take_ofW HT_.out HW_.out (by kernel_rfl)) (fun _ _ _ h => h) (Or.inl ⟨by rfl, ?_⟩) hHeld ?_ ?_
                rotate_left
                · rintro w' ⟨s0, s1, s2, s3, s4, s5, s6, s7⟩
                  go_simp
                  with_reducible rfl
                rotate_left
                · simp only [Act.put, List.setIfInBounds_toArray, List.set_cons_zero, List.set_cons_succ, i64_w, i32_w]
                  rfl
                refine take_ (i := 5) (N := some 39) (v := ?_) (a' := ?_) #[true, true, false, true, false, true, false, false, false, false] rfl rfl (take_ofW HT_.out HW_.out (by kernel_rfl)) (fun _ _ _ h => h) (Or.inl ⟨by rfl, ?_⟩) hHeld ?_ ?_
                rotate_left
                · rintro w' ⟨s0, s1, s2, s3, s4, s5, s6, s7⟩
                  go_simp
                  with_reducible rfl
                rotate_left
                · simp only [Act.put, List.setIfInBounds_toArray, List.set_cons_zero, List.set_cons_succ, i64_w, i32_w]
                  rfl
                refine join_ (σ := Value × Value) 3 #[true, true, true, true, true, true, true, false, false, false] (fun s_ => [(36, .int .i64 t360), (38, s_.1), (40, s_.2)]) (fun s_ w' => (w'.cell? ⟨gb330, 0, none⟩ = some (.int .i64 a1_0) ∧ w'.cell? ⟨gb330, 1, none⟩ = some (.int .i64 a1_1) ∧ w'.cell? ⟨gb330, 2, none⟩ = some (.int .u64 a1_2) ∧ w'.cell? ⟨gb330, 3, none⟩ = some (.string a1_3) ∧ w'.cell? ⟨gb331, 0, none⟩ = some (.int .i64 a2_0) ∧ w'.cell? ⟨gb331, 1, none⟩ = some (.int .i64 a2_1) ∧ w'.cell? ⟨gb331, 2, none⟩ = some (.int .u64 a2_2) ∧ w'.cell? ⟨gb331, 3, none⟩ = some (.string a2_3)) ∧ (Kd.R k34 34 w' w.heap.size (fun k_ => some k_ ≠ (s_.2 : Value).ownBlock ∧ some k_ ≠ (.slice Ao48 y341.length co48 : Value).ownBlock ∧ some k_ ≠ (.slice Ao49 y353.length co49 : Value).ownBlock ∧ k_ ≠ gb330 ∧ k_ ≠ gb331) s_.1 y361) ∧ (Kd.R k34 34 w' w.heap.size (fun k_ => some k_ ≠ (s_.1 : Value).ownBlock ∧ some k_ ≠ (.slice Ao48 y341.length co48 : Value).ownBlock ∧ some k_ ≠ (.slice Ao49 y353.length co49 : Value).ownBlock ∧ k_ ≠ gb330 ∧ k_ ≠ gb331) s_.2 y364) ∧ (Kd.R k34 34 w' w.heap.size (fun k_ => some k_ ≠ (s_.1 : Value).ownBlock ∧ some k_ ≠ (s_.2 : Value).ownBlock ∧ some k_ ≠ (.slice Ao49 y353.length co49 : Value).ownBlock ∧ k_ ≠ gb330 ∧ k_ ≠ gb331) (.slice Ao48 y341.length co48) y341) ∧ (Kd.R k34 34 w' w.heap.size (fun k_ => some k_ ≠ (s_.1 : Value).ownBlock ∧ some k_ ≠ (s_.2 : Value).ownBlock ∧ some k_ ≠ (.slice Ao48 y341.length co48 : Value).ownBlock ∧ k_ ≠ gb330 ∧ k_ ≠ gb331) (.slice Ao49 y353.length co49) y353) ∧ (w'.heap[gb330]? = some (.cells #[.int .i64 a1_0, .int .i64 a1_1, .int .u64 a1_2, .string a1_3] 34 (0, 0))) ∧ (w'.heap[gb331]? = some (.cells #[.int .i64 a2_0, .int .i64 a2_1, .int .u64 a2_2, .string a2_3] 34 (0, 0))) ∧ (Below w.heap.size w w')) ?_ ?_
                rotate_left
                · intro hJ2_4_6
                  refine join_ (σ := Value) 4 #[true, true, true, true, true, true, false, false, false, false] (fun s_ => [(36, .int .i64 t360), (38, s_)]) (fun s_ w' => (w'.cell? ⟨gb330, 0, none⟩ = some (.int .i64 a1_0) ∧ w'.cell? ⟨gb330, 1, none⟩ = some (.int .i64 a1_1) ∧ w'.cell? ⟨gb330, 2, none⟩ = some (.int .u64 a1_2) ∧ w'.cell? ⟨gb330, 3, none⟩ = some (.string a1_3) ∧ w'.cell? ⟨gb331, 0, none⟩ = some (.int .i64 a2_0) ∧ w'.cell? ⟨gb331, 1, none⟩ = some (.int .i64 a2_1) ∧ w'.cell? ⟨gb331, 2, none⟩ = some (.int .u64 a2_2) ∧ w'.cell? ⟨gb331, 3, none⟩ = some (.string a2_3)) ∧ (Kd.R k34 34 w' w.heap.size (fun k_ => some k_ ≠ (.slice Ao48 y341.length co48 : Value).ownBlock ∧ some k_ ≠ (.slice Ao49 y353.length co49 : Value).ownBlock ∧ k_ ≠ gb330 ∧ k_ ≠ gb331) s_ y361) ∧ (Kd.R k34 34 w' w.heap.size (fun k_ => some k_ ≠ (s_ : Value).ownBlock ∧ some k_ ≠ (.slice Ao49 y353.length co49 : Value).ownBlock ∧ k_ ≠ gb330 ∧ k_ ≠ gb331) (.slice Ao48 y341.length co48) y341) ∧ (Kd.R k34 34 w' w.heap.size (fun k_ => some k_ ≠ (s_ : Value).ownBlock ∧ some k_ ≠ (.slice Ao48 y341.length co48 : Value).ownBlock ∧ k_ ≠ gb330 ∧ k_ ≠ gb331) (.slice Ao49 y353.length co49) y353) ∧ (w'.heap[gb330]? = some (.cells #[.int .i64 a1_0, .int .i64 a1_1, .int .u64 a1_2, .string a1_3] 34 (0, 0))) ∧ (w'.heap[gb331]? = some (.cells #[.int .i64 a2_0, .int .i64 a2_1, .int .u64 a2_2, .string a2_3] 34 (0, 0))) ∧ (Below w.heap.size w w')) ?_ ?_
                  rotate_left
                  · intro hJ2_4
                    refine join_ (σ := Value) 4 #[true, true, true, true, false, true, true, false, false, false] (fun s_ => [(36, .int .i64 t360), (40, s_)]) (fun s_ w' => (w'.cell? ⟨gb330, 0, none⟩ = some (.int .i64 a1_0) ∧ w'.cell? ⟨gb330, 1, none⟩ = some (.int .i64 a1_1) ∧ w'.cell? ⟨gb330, 2, none⟩ = some (.int .u64 a1_2) ∧ w'.cell? ⟨gb330, 3, none⟩ = some (.string a1_3) ∧ w'.cell? ⟨gb331, 0, none⟩ = some (.int .i64 a2_0) ∧ w'.cell? ⟨gb331, 1, none⟩ = some (.int .i64 a2_1) ∧ w'.cell? ⟨gb331, 2, none⟩ = some (.int .u64 a2_2) ∧ w'.cell? ⟨gb331, 3, none⟩ = some (.string a2_3)) ∧ (Kd.R k34 34 w' w.heap.size (fun k_ => some k_ ≠ (.slice Ao48 y341.length co48 : Value).ownBlock ∧ some k_ ≠ (.slice Ao49 y353.length co49 : Value).ownBlock ∧ k_ ≠ gb330 ∧ k_ ≠ gb331) s_ y364) ∧ (Kd.R k34 34 w' w.heap.size (fun k_ => some k_ ≠ (s_ : Value).ownBlock ∧ some k_ ≠ (.slice Ao49 y353.length co49 : Value).ownBlock ∧ k_ ≠ gb330 ∧ k_ ≠ gb331) (.slice Ao48 y341.length co48) y341) ∧ (Kd.R k34 34 w' w.heap.size (fun k_ => some k_ ≠ (s_ : Value).ownBlock ∧ some k_ ≠ (.slice Ao48 y341.length co48 : Value).ownBlock ∧ k_ ≠ gb330 ∧ k_ ≠ gb331) (.slice Ao49 y353.length co49) y353) ∧ (w'.heap[gb330]? = some (.cells #[.int .i64 a1_0, .int .i64 a1_1, .int .u64 a1_2, .string a1_3] 34 (0, 0))) ∧ (w'.heap[gb331]? = some (.cells #[.int .i64 a2_0, .int .i64 a2_1, .int .u64 a2_2, .string a2_3] 34 (0, 0))) ∧ (Below w.heap.size w w')) ?_ ?_
                    rotate_left
                    · intro hJ2_6
                      refine join_ (σ := Value × Value) 4 #[true, true, false, true, true, true, true, false, false, false] (fun s_ => [(38, s_.1), (40, s_.2)]) (fun s_ w' => (w'.cell? ⟨gb330, 0, none⟩ = some (.int .i64 a1_0) ∧ w'.cell? ⟨gb330, 1, none⟩ = some (.int .i64 a1_1) ∧ w'.cell? ⟨gb330, 2, none⟩ = some (.int .u64 a1_2) ∧ w'.cell? ⟨gb330, 3, none⟩ = some (.string a1_3) ∧ w'.cell? ⟨gb331, 0, none⟩ = some (.int .i64 a2_0) ∧ w'.cell? ⟨gb331, 1, none⟩ = some (.int .i64 a2_1) ∧ w'.cell? ⟨gb331, 2, none⟩ = some (.int .u64 a2_2) ∧ w'.cell? ⟨gb331, 3, none⟩ = some (.string a2_3)) ∧ (Kd.R k34 34 w' w.heap.size (fun k_ => some k_ ≠ (s_.2 : Value).ownBlock ∧ some k_ ≠ (.slice Ao48 y341.length co48 : Value).ownBlock ∧ some k_ ≠ (.slice Ao49 y353.length co49 : Value).ownBlock ∧ k_ ≠ gb330 ∧ k_ ≠ gb331) s_.1 y361) ∧ (Kd.R k34 34 w' w.heap.size (fun k_ => some k_ ≠ (s_.1 : Value).ownBlock ∧ some k_ ≠ (.slice Ao48 y341.length co48 : Value).ownBlock ∧ some k_ ≠ (.slice Ao49 y353.length co49 : Value).ownBlock ∧ k_ ≠ gb330 ∧ k_ ≠ gb331) s_.2 y364) ∧ (Kd.R k34 34 w' w.heap.size (fun k_ => some k_ ≠ (s_.1 : Value).ownBlock ∧ some k_ ≠ (s_.2 : Value).ownBlock ∧ some k_ ≠ (.slice Ao49 y353.length co49 : Value).ownBlock ∧ k_ ≠ gb330 ∧ k_ ≠ gb331) (.slice Ao48 y341.length co48) y341) ∧ (Kd.R k34 34 w' w.heap.size (fun k_ => some k_ ≠ (s_.1 : Value).ownBlock ∧ some k_ ≠ (s_.2 : Value).ownBlock ∧ some k_ ≠ (.slice Ao48 y341.length co48 : Value).ownBlock ∧ k_ ≠ gb330 ∧ k_ ≠ gb331) (.slice Ao49 y353.length co49) y353) ∧ (w'.heap[gb330]? = some (.cells #[.int .i64 a1_0, .int .i64 a1_1, .int .u64 a1_2, .string a1_3] 34 (0, 0))) ∧ (w'.heap[gb331]? = some (.cells #[.int .i64 a2_0, .int .i64 a2_1, .int .u64 a2_2, .string a2_3] 34 (0, 0))) ∧ (Below w.heap.size w w')) ?_ ?_
                      rotate_left
                      · intro hJ4_6
                        refine join_ (σ := Unit) 5 #[true, true, true, true, false, true, false, false, false, false] (fun s_ => [(36, .int .i64 t360)]) (fun s_ w' => (w'.cell? ⟨gb330, 0, none⟩ = some (.int .i64 a1_0) ∧ w'.cell? ⟨gb330, 1, none⟩ = some (.int .i64 a1_1) ∧ w'.cell? ⟨gb330, 2, none⟩ = some (.int .u64 a1_2) ∧ w'.cell? ⟨gb330, 3, none⟩ = some (.string a1_3) ∧ w'.cell? ⟨gb331, 0, none⟩ = some (.int .i64 a2_0) ∧ w'.cell? ⟨gb331, 1, none⟩ = some (.int .i64 a2_1) ∧ w'.cell? ⟨gb331, 2, none⟩ = some (.int .u64 a2_2) ∧ w'.cell? ⟨gb331, 3, none⟩ = some (.string a2_3)) ∧ (Kd.R k34 34 w' w.heap.size (fun k_ => some k_ ≠ (.slice Ao49 y353.length co49 : Value).ownBlock ∧ k_ ≠ gb330 ∧ k_ ≠ gb331) (.slice Ao48 y341.length co48) y341) ∧ (Kd.R k34 34 w' w.heap.size (fun k_ => some k_ ≠ (.slice Ao48 y341.length co48 : Value).ownBlock ∧ k_ ≠ gb330 ∧ k_ ≠ gb331) (.slice Ao49 y353.length co49) y353) ∧ (w'.heap[gb330]? = some (.cells #[.int .i64 a1_0, .int .i64 a1_1, .int .u64 a1_2, .string a1_3] 34 (0, 0))) ∧ (w'.heap[gb331]? = some (.cells #[.int .i64 a2_0, .int .i64 a2_1, .int .u64 a2_2, .string a2_3] 34 (0, 0))) ∧ (Below w.heap.size w w')) ?_ ?_
                        rotate_left
                        · intro hJ2
                          refine join_ (σ := Value) 5 #[true, true, false, true, true, true, false, false, false, false] (fun s_ => [(38, s_)]) (fun s_ w' => (w'.cell? ⟨gb330, 0, none⟩ = some (.int .i64 a1_0) ∧ w'.cell? ⟨gb330, 1, none⟩ = some (.int .i64 a1_1) ∧ w'.cell? ⟨gb330, 2, none⟩ = some (.int .u64 a1_2) ∧ w'.cell? ⟨gb330, 3, none⟩ = some (.string a1_3) ∧ w'.cell? ⟨gb331, 0, none⟩ = some (.int .i64 a2_0) ∧ w'.cell? ⟨gb331, 1, none⟩ = some (.int .i64 a2_1) ∧ w'.cell? ⟨gb331, 2, none⟩ = some (.int .u64 a2_2) ∧ w'.cell? ⟨gb331, 3, none⟩ = some (.string a2_3)) ∧ (Kd.R k34 34 w' w.heap.size (fun k_ => some k_ ≠ (.slice Ao48 y341.length co48 : Value).ownBlock ∧ some k_ ≠ (.slice Ao49 y353.length co49 : Value).ownBlock ∧ k_ ≠ gb330 ∧ k_ ≠ gb331) s_ y361) ∧ (Kd.R k34 34 w' w.heap.size (fun k_ => some k_ ≠ (s_ : Value).ownBlock ∧ some k_ ≠ (.slice Ao49 y353.length co49 : Value).ownBlock ∧ k_ ≠ gb330 ∧ k_ ≠ gb331) (.slice Ao48 y341.length co48) y341) ∧ (Kd.R k34 34 w' w.heap.size (fun k_ => some k_ ≠ (s_ : Value).ownBlock ∧ some k_ ≠ (.slice Ao48 y341.length co48 : Value).ownBlock ∧ k_ ≠ gb330 ∧ k_ ≠ gb331) (.slice Ao49 y353.length co49) y353) ∧ (w'.heap[gb330]? = some (.cells #[.int .i64 a1_0, .int .i64 a1_1, .int .u64 a1_2, .string a1_3] 34 (0, 0))) ∧ (w'.heap[gb331]? = some (.cells #[.int .i64 a2_0, .int .i64 a2_1, .int .u64 a2_2, .string a2_3] 34 (0, 0))) ∧ (Below w.heap.size w w')) ?_ ?_
                          rotate_left
                          · intro hJ4
                            refine join_ (σ := Value) 5 #[true, true, false, true, false, true, true, false, false, false] (fun s_ => [(40, s_)]) (fun s_ w' => (w'.cell? ⟨gb330, 0, none⟩ = some (.int .i64 a1_0) ∧ w'.cell? ⟨gb330, 1, none⟩ = some (.int .i64 a1_1) ∧ w'.cell? ⟨gb330, 2, none⟩ = some (.int .u64 a1_2) ∧ w'.cell? ⟨gb330, 3, none⟩ = some (.string a1_3) ∧ w'.cell? ⟨gb331, 0, none⟩ = some (.int .i64 a2_0) ∧ w'.cell? ⟨gb331, 1, none⟩ = some (.int .i64 a2_1) ∧ w'.cell? ⟨gb331, 2, none⟩ = some (.int .u64 a2_2) ∧ w'.cell? ⟨gb331, 3, none⟩ = some (.string a2_3)) ∧ (Kd.R k34 34 w' w.heap.size (fun k_ => some k_ ≠ (.slice Ao48 y341.length co48 : Value).ownBlock ∧ some k_ ≠ (.slice Ao49 y353.length co49 : Value).ownBlock ∧ k_ ≠ gb330 ∧ k_ ≠ gb331) s_ y364) ∧ (Kd.R k34 34 w' w.heap.size (fun k_ => some k_ ≠ (s_ : Value).ownBlock ∧ some k_ ≠ (.slice Ao49 y353.length co49 : Value).ownBlock ∧ k_ ≠ gb330 ∧ k_ ≠ gb331) (.slice Ao48 y341.length co48) y341) ∧ (Kd.R k34 34 w' w.heap.size (fun k_ => some k_ ≠ (s_ : Value).ownBlock ∧ some k_ ≠ (.slice Ao48 y341.length co48 : Value).ownBlock ∧ k_ ≠ gb330 ∧ k_ ≠ gb331) (.slice Ao49 y353.length co49) y353) ∧ (w'.heap[gb330]? = some (.cells #[.int .i64 a1_0, .int .i64 a1_1, .int .u64 a1_2, .string a1_3] 34 (0, 0))) ∧ (w'.heap[gb331]? = some (.cells #[.int .i64 a2_0, .int .i64 a2_1, .int .u64 a2_2, .string a2_3] 34 (0, 0))) ∧ (Below w.heap.size w w')) ?_ ?_
                            rotate_left
                            · intro hJ6
                              refine three_ (i := 2) (j := 4) (k := 6) (Ni := some 36) (Nj := some 38) (Nk := some 40) #[true, true, true, true, false, true, false, false, false, false] #[true, true, false, true, true, true, false, false, false, false] #[true, true, false, true, false, true, true, false, false, false] rfl rfl rfl rfl rfl rfl (three_of HT_.out (by kernel_rfl)) (by decide) (by decide) (by decide) (fun K hK => ?_) (fun K hK => ?_) (fun K hK => ?_)
                              · skip
                                refine goes_ Tryd.func21 (by kernel_rfl) rfl #[.slice Ao48 y341.length co48, .slice Ao49 y353.length co49] (by rfl) rfl rfl (by (try simp only [List.map_toArray, List.map_cons, List.map_nil]); first | done | rfl | (simp only [List.length_drop, List.length_take]; rfl)) ?_
                                with_reducible refine (keys_Cmp.calls kj7 _ _ y341 _ _ y353 t360 _ ?side1 ?side2 ?side3 ?side4 A46.out).mono ?_
                                (case side1 => repeat (first | exact (Kd.R_reads' HO_7.out).2.2 | (with_reducible refine Kd.C_alloc ?_ _) | (with_reducible refine Kd.C_drewN ?_ _) | (with_reducible refine Kd.C_drew ?_)))
                                (case side2 => exact (Kd.R_reads' HO_7.out).2.1)
                                (case side3 => repeat (first | exact (Kd.R_reads' HO_8.out).2.2 | (with_reducible refine Kd.C_alloc ?_ _) | (with_reducible refine Kd.C_drewN ?_ _) | (with_reducible refine Kd.C_drew ?_)))
                                (case side4 => exact (Kd.R_reads' HO_8.out).2.1)
                                rintro e w51 ⟨rfl, hb⟩
                                refine ⟨_, rfl, ?_⟩
                                have n0_ := Aside0.mk (Kd.R_below (by (with_reducible repeat (first | apply Kd.R_alloc | apply Kd.R_drewN | apply Kd.R_drew)); exact HO_7.out) hb)
                                have n1_ := Aside0.mk (Kd.R_below (by (with_reducible repeat (first | apply Kd.R_alloc | apply Kd.R_drewN | apply Kd.R_drew)); exact HO_8.out) hb)
                                have n2_ := Aside0.mk (blk_below (g := gb330) (o := .cells #[.int .i64 a1_0, .int .i64 a1_1, .int .u64 a1_2, .string a1_3] 34 (0, 0)) (by (with_reducible repeat (first | refine blk_drewN ?_ _ | refine blk_drew ?_ | refine blk_alloc ?_ _)); exact BK330.out) hb)
                                have n3_ := Aside0.mk (blk_below (g := gb331) (o := .cells #[.int .i64 a2_0, .int .i64 a2_1, .int .u64 a2_2, .string a2_3] 34 (0, 0)) (by (with_reducible repeat (first | refine blk_drewN ?_ _ | refine blk_drew ?_ | refine blk_alloc ?_ _)); exact BK331.out) hb)
                                have n4_ := Aside0.mk (below_step (by repeat (first | (with_reducible first | exact HB.out | apply below_alloc | apply pw_below_drewN | apply below_drew1 | refine below_set ?_ GE330.out | refine below_set ?_ GE331.out) | exact HB.out)) hb)
                                clear HO_7
                                clear HO_8
                                clear BK330
                                clear BK331
                                clear HB
                                have HO_7 := n0_
                                have HO_8 := n1_
                                have BK330 := n2_
                                have BK331 := n3_
                                have HB := n4_
                                clear n0_ n1_ n2_ n3_ n4_
                                (try clear hb)
                                (try clear hb2)
                                (try clear hk)
                                (try clear hi)
                                refine hK.out _ _ ⟨(blk_cell BK330.out 0).trans rfl, (blk_cell BK330.out 1).trans rfl, (blk_cell BK330.out 2).trans rfl, (blk_cell BK330.out 3).trans rfl, (blk_cell BK331.out 0).trans rfl, (blk_cell BK331.out 1).trans rfl, (blk_cell BK331.out 2).trans rfl, (blk_cell BK331.out 3).trans rfl⟩ (fun hHeld => ?_)
                                clear hK K
                                refine norm_ (a' := ?_) ?_ ?_
                                rotate_left
                                · show Act.put _ (some 36) _ = _
                                  simp only [Act.put, List.setIfInBounds_toArray, List.set_cons_zero, List.set_cons_succ, i64_w, i32_w]
                                  rfl
                                exact norm_ (by first | (simp only [putAll, Act.put, List.setIfInBounds_toArray, List.set_cons_zero, List.set_cons_succ]; done) | (simp only [putAll, Act.put, List.setIfInBounds_toArray, List.set_cons_zero, List.set_cons_succ]; rfl)) (hJ2 () _ ⟨hHeld, (by (with_reducible repeat (first | apply Kd.R_alloc | apply Kd.R_drewN | apply Kd.R_drew)); exact HO_7.out), (by (with_reducible repeat (first | apply Kd.R_alloc | apply Kd.R_drewN | apply Kd.R_drew)); exact HO_8.out), (by (with_reducible repeat (first | refine blk_drewN ?_ _ | refine blk_drew ?_ | refine blk_alloc ?_ _)); exact BK330.out), (by (with_reducible repeat (first | refine blk_drewN ?_ _ | refine blk_drew ?_ | refine blk_alloc ?_ _)); exact BK331.out), (by repeat (first | (with_reducible first | exact HB.out | apply below_alloc | apply pw_below_drewN | apply below_drew1 | refine below_set ?_ GE330.out | refine below_set ?_ GE331.out) | exact HB.out))⟩)
                              · skip
                                refine Kd.R_lit_step k34 _ 34 ?hg (N := 38) ?hd (xs := ([(⟨a1_0, a1_1, a1_2, a1_3⟩ : S34)] : List (S34))) (inner := [.int .i64 a1_0, .int .i64 a1_1, .int .u64 a1_2, .string a1_3]) (ok := fun _ => True) (okp := fun _ => True) ?hr ?hp (fun _ hk => hk) trivial (Below.refl _ _) (Nat.le_refl _) (by simp) ?_; (case hd => rfl); (case hg => rfl); (case hr => first | (go_simp; done) | (go_simp; rfl)); (case hp => exact (Reps.c4 (show Kd.M k34 _ _ _ (⟨a1_0, a1_1, a1_2, a1_3⟩ : S34) [.int .i64 a1_0, .int .i64 a1_1, .int .u64 a1_2, .string a1_3] from (k34_mkM _ _ _ (⟨a1_0, a1_1, a1_2, a1_3⟩ : S34) )) (Reps.none _ _)))
                                intro v362 w51 ho52 hb hg_ hnew_
                                clear hg_ hnew_
                                (first | rw [← Ny361.out] at ho52 | (simp only [Int.reduceToNat] at ho52; rw [← Ny361.out] at ho52))
                                have n0_ := Aside0.mk (Kd.R_elder' (by (with_reducible repeat (first | apply Kd.R_alloc | apply Kd.R_drewN | apply Kd.R_drew)); exact HO_7.out) (Kd.R_base ho52) hb)
                                have n1_ := Aside0.mk (Kd.R_elder' (by (with_reducible repeat (first | apply Kd.R_alloc | apply Kd.R_drewN | apply Kd.R_drew)); exact HO_8.out) (Kd.R_base ho52) hb)
                                have n2_ := Aside0.mk (Kd.R_lower (Kd.R_newB (Kd.R_newB (Kd.R_new' (Kd.R_new' ho52 (Kd.R_lt (by (with_reducible repeat (first | apply Kd.R_alloc | apply Kd.R_drewN | apply Kd.R_drew)); exact HO_7.out))) (Kd.R_lt (by (with_reducible repeat (first | apply Kd.R_alloc | apply Kd.R_drewN | apply Kd.R_drew)); exact HO_8.out))) (g := gb330) (o := .cells #[.int .i64 a1_0, .int .i64 a1_1, .int .u64 a1_2, .string a1_3] 34 (0, 0)) (by (with_reducible repeat (first | refine blk_drewN ?_ _ | refine blk_drew ?_ | refine blk_alloc ?_ _)); exact BK330.out)) (g := gb331) (o := .cells #[.int .i64 a2_0, .int .i64 a2_1, .int .u64 a2_2, .string a2_3] 34 (0, 0)) (by (with_reducible repeat (first | refine blk_drewN ?_ _ | refine blk_drew ?_ | refine blk_alloc ?_ _)); exact BK331.out)) (below_size (by repeat (first | (with_reducible first | exact HB.out | apply below_alloc | apply pw_below_drewN | apply below_drew1 | refine below_set ?_ GE330.out | refine below_set ?_ GE331.out) | exact HB.out))))
                                have n3_ := Aside0.mk (blk_below (g := gb330) (o := .cells #[.int .i64 a1_0, .int .i64 a1_1, .int .u64 a1_2, .string a1_3] 34 (0, 0)) (by (with_reducible repeat (first | refine blk_drewN ?_ _ | refine blk_drew ?_ | refine blk_alloc ?_ _)); exact BK330.out) hb)
                                have n4_ := Aside0.mk (blk_below (g := gb331) (o := .cells #[.int .i64 a2_0, .int .i64 a2_1, .int .u64 a2_2, .string a2_3] 34 (0, 0)) (by (with_reducible repeat (first | refine blk_drewN ?_ _ | refine blk_drew ?_ | refine blk_alloc ?_ _)); exact BK331.out) hb)
                                have n5_ := Aside0.mk (below_step (by repeat (first | (with_reducible first | exact HB.out | apply below_alloc | apply pw_below_drewN | apply below_drew1 | refine below_set ?_ GE330.out | refine below_set ?_ GE331.out) | exact HB.out)) hb)
                                clear HO_7
                                clear HO_8
                                clear BK330
                                clear BK331
                                clear HB
                                have HO_7 := n0_
                                have HO_8 := n1_
                                have HO363 := n2_
                                have BK330 := n3_
                                have BK331 := n4_
                                have HB := n5_
                                clear n0_ n1_ n2_ n3_ n4_ n5_
                                clear hb ho52
                                refine hK.out _ _ ⟨(blk_cell BK330.out 0).trans rfl, (blk_cell BK330.out 1).trans rfl, (blk_cell BK330.out 2).trans rfl, (blk_cell BK330.out 3).trans rfl, (blk_cell BK331.out 0).trans rfl, (blk_cell BK331.out 1).trans rfl, (blk_cell BK331.out 2).trans rfl, (blk_cell BK331.out 3).trans rfl⟩ (fun hHeld => ?_)
                                clear hK K
                                refine norm_ (a' := ?_) ?_ ?_
                                rotate_left
                                · show Act.put _ (some 38) _ = _
                                  simp only [Act.put, List.setIfInBounds_toArray, List.set_cons_zero, List.set_cons_succ, i64_w, i32_w]
                                  rfl
                                exact norm_ (by first | (simp only [putAll, Act.put, List.setIfInBounds_toArray, List.set_cons_zero, List.set_cons_succ]; done) | (simp only [putAll, Act.put, List.setIfInBounds_toArray, List.set_cons_zero, List.set_cons_succ]; rfl)) (hJ4 (v362) _ ⟨hHeld, (by (with_reducible repeat (first | apply Kd.R_alloc | apply Kd.R_drewN | apply Kd.R_drew)); exact Kd.R_mono HO363.out (fun _ hk => ⟨hk.1.1.1.2, ⟨hk.1.1.2, ⟨hk.1.2, hk.2⟩⟩⟩)), (by (with_reducible repeat (first | apply Kd.R_alloc | apply Kd.R_drewN | apply Kd.R_drew)); exact Kd.R_mono HO_7.out (fun _ hk => ⟨hk.2, ⟨hk.1.1, ⟨hk.1.2.1, hk.1.2.2⟩⟩⟩)), (by (with_reducible repeat (first | apply Kd.R_alloc | apply Kd.R_drewN | apply Kd.R_drew)); exact Kd.R_mono HO_8.out (fun _ hk => ⟨hk.2, ⟨hk.1.1, ⟨hk.1.2.1, hk.1.2.2⟩⟩⟩)), (by (with_reducible repeat (first | refine blk_drewN ?_ _ | refine blk_drew ?_ | refine blk_alloc ?_ _)); exact BK330.out), (by (with_reducible repeat (first | refine blk_drewN ?_ _ | refine blk_drew ?_ | refine blk_alloc ?_ _)); exact BK331.out), (by repeat (first | (with_reducible first | exact HB.out | apply below_alloc | apply pw_below_drewN | apply below_drew1 | refine below_set ?_ GE330.out | refine below_set ?_ GE331.out) | exact HB.out))⟩)
                              · skip
                                refine Kd.R_lit_step k34 _ 34 ?hg (N := 40) ?hd (xs := ([(⟨a2_0, a2_1, a2_2, a2_3⟩ : S34)] : List (S34))) (inner := [.int .i64 a2_0, .int .i64 a2_1, .int .u64 a2_2, .string a2_3]) (ok := fun _ => True) (okp := fun _ => True) ?hr ?hp (fun _ hk => hk) trivial (Below.refl _ _) (Nat.le_refl _) (by simp) ?_; (case hd => rfl); (case hg => rfl); (case hr => first | (go_simp; done) | (go_simp; rfl)); (case hp => exact (Reps.c4 (show Kd.M k34 _ _ _ (⟨a2_0, a2_1, a2_2, a2_3⟩ : S34) [.int .i64 a2_0, .int .i64 a2_1, .int .u64 a2_2, .string a2_3] from (k34_mkM _ _ _ (⟨a2_0, a2_1, a2_2, a2_3⟩ : S34) )) (Reps.none _ _)))
                                intro v365 w51 ho52 hb hg_ hnew_
                                clear hg_ hnew_
                                (first | rw [← Ny364.out] at ho52 | (simp only [Int.reduceToNat] at ho52; rw [← Ny364.out] at ho52))
                                have n0_ := Aside0.mk (Kd.R_elder' (by (with_reducible repeat (first | apply Kd.R_alloc | apply Kd.R_drewN | apply Kd.R_drew)); exact HO_7.out) (Kd.R_base ho52) hb)
                                have n1_ := Aside0.mk (Kd.R_elder' (by (with_reducible repeat (first | apply Kd.R_alloc | apply Kd.R_drewN | apply Kd.R_drew)); exact HO_8.out) (Kd.R_base ho52) hb)
                                have n2_ := Aside0.mk (Kd.R_lower (Kd.R_newB (Kd.R_newB (Kd.R_new' (Kd.R_new' ho52 (Kd.R_lt (by (with_reducible repeat (first | apply Kd.R_alloc | apply Kd.R_drewN | apply Kd.R_drew)); exact HO_7.out))) (Kd.R_lt (by (with_reducible repeat (first | apply Kd.R_alloc | apply Kd.R_drewN | apply Kd.R_drew)); exact HO_8.out))) (g := gb330) (o := .cells #[.int .i64 a1_0, .int .i64 a1_1, .int .u64 a1_2, .string a1_3] 34 (0, 0)) (by (with_reducible repeat (first | refine blk_drewN ?_ _ | refine blk_drew ?_ | refine blk_alloc ?_ _)); exact BK330.out)) (g := gb331) (o := .cells #[.int .i64 a2_0, .int .i64 a2_1, .int .u64 a2_2, .string a2_3] 34 (0, 0)) (by (with_reducible repeat (first | refine blk_drewN ?_ _ | refine blk_drew ?_ | refine blk_alloc ?_ _)); exact BK331.out)) (below_size (by repeat (first | (with_reducible first | exact HB.out | apply below_alloc | apply pw_below_drewN | apply below_drew1 | refine below_set ?_ GE330.out | refine below_set ?_ GE331.out) | exact HB.out))))
                                have n3_ := Aside0.mk (blk_below (g := gb330) (o := .cells #[.int .i64 a1_0, .int .i64 a1_1, .int .u64 a1_2, .string a1_3] 34 (0, 0)) (by (with_reducible repeat (first | refine blk_drewN ?_ _ | refine blk_drew ?_ | refine blk_alloc ?_ _)); exact BK330.out) hb)
                                have n4_ := Aside0.mk (blk_below (g := gb331) (o := .cells #[.int .i64 a2_0, .int .i64 a2_1, .int .u64 a2_2, .string a2_3] 34 (0, 0)) (by (with_reducible repeat (first | refine blk_drewN ?_ _ | refine blk_drew ?_ | refine blk_alloc ?_ _)); exact BK331.out) hb)
                                have n5_ := Aside0.mk (below_step (by repeat (first | (with_reducible first | exact HB.out | apply below_alloc | apply pw_below_drewN | apply below_drew1 | refine below_set ?_ GE330.out | refine below_set ?_ GE331.out) | exact HB.out)) hb)
                                clear HO_7
                                clear HO_8
                                clear BK330
                                clear BK331
                                clear HB
                                have HO_7 := n0_
                                have HO_8 := n1_
                                have HO366 := n2_
                                have BK330 := n3_
                                have BK331 := n4_
                                have HB := n5_
                                clear n0_ n1_ n2_ n3_ n4_ n5_
                                clear hb ho52
                                refine hK.out _ _ ⟨(blk_cell BK330.out 0).trans rfl, (blk_cell BK330.out 1).trans rfl, (blk_cell BK330.out 2).trans rfl, (blk_cell BK330.out 3).trans rfl, (blk_cell BK331.out 0).trans rfl, (blk_cell BK331.out 1).trans rfl, (blk_cell BK331.out 2).trans rfl, (blk_cell BK331.out 3).trans rfl⟩ (fun hHeld => ?_)
                                clear hK K
                                refine norm_ (a' := ?_) ?_ ?_
                                rotate_left
                                · show Act.put _ (some 40) _ = _
                                  simp only [Act.put, List.setIfInBounds_toArray, List.set_cons_zero, List.set_cons_succ, i64_w, i32_w]
                                  rfl
                                exact norm_ (by first | (simp only [putAll, Act.put, List.setIfInBounds_toArray, List.set_cons_zero, List.set_cons_succ]; done) | (simp only [putAll, Act.put, List.setIfInBounds_toArray, List.set_cons_zero, List.set_cons_succ]; rfl)) (hJ6 (v365) _ ⟨hHeld, (by (with_reducible repeat (first | apply Kd.R_alloc | apply Kd.R_drewN | apply Kd.R_drew)); exact Kd.R_mono HO366.out (fun _ hk => ⟨hk.1.1.1.2, ⟨hk.1.1.2, ⟨hk.1.2, hk.2⟩⟩⟩)), (by (with_reducible repeat (first | apply Kd.R_alloc | apply Kd.R_drewN | apply Kd.R_drew)); exact Kd.R_mono HO_7.out (fun _ hk => ⟨hk.2, ⟨hk.1.1, ⟨hk.1.2.1, hk.1.2.2⟩⟩⟩)), (by (with_reducible repeat (first | apply Kd.R_alloc | apply Kd.R_drewN | apply Kd.R_drew)); exact Kd.R_mono HO_8.out (fun _ hk => ⟨hk.2, ⟨hk.1.1, ⟨hk.1.2.1, hk.1.2.2⟩⟩⟩)), (by (with_reducible repeat (first | refine blk_drewN ?_ _ | refine blk_drew ?_ | refine blk_alloc ?_ _)); exact BK330.out), (by (with_reducible repeat (first | refine blk_drewN ?_ _ | refine blk_drew ?_ | refine blk_alloc ?_ _)); exact BK331.out), (by repeat (first | (with_reducible first | exact HB.out | apply below_alloc | apply pw_below_drewN | apply below_drew1 | refine below_set ?_ GE330.out | refine below_set ?_ GE331.out) | exact HB.out))⟩)
                            · skip
                              rintro v365 w53 ⟨hS_, h0_, h1_, h2_, h3_, h4_, h5_⟩
                              have n0_ : Aside0 (Kd.R k34 34 w53 w.heap.size (fun k_ => some k_ ≠ (.slice Ao48 y341.length co48 : Value).ownBlock ∧ some k_ ≠ (.slice Ao49 y353.length co49 : Value).ownBlock ∧ k_ ≠ gb330 ∧ k_ ≠ gb331) v365 y364) := ⟨h0_⟩
                              have n1_ : Aside0 (Kd.R k34 34 w53 w.heap.size (fun k_ => some k_ ≠ (v365 : Value).ownBlock ∧ some k_ ≠ (.slice Ao49 y353.length co49 : Value).ownBlock ∧ k_ ≠ gb330 ∧ k_ ≠ gb331) (.slice Ao48 y341.length co48) y341) := ⟨h1_⟩
                              have n2_ : Aside0 (Kd.R k34 34 w53 w.heap.size (fun k_ => some k_ ≠ (v365 : Value).ownBlock ∧ some k_ ≠ (.slice Ao48 y341.length co48 : Value).ownBlock ∧ k_ ≠ gb330 ∧ k_ ≠ gb331) (.slice Ao49 y353.length co49) y353) := ⟨h2_⟩
                              have n3_ : Aside0 (w53.heap[gb330]? = some (.cells #[.int .i64 a1_0, .int .i64 a1_1, .int .u64 a1_2, .string a1_3] 34 (0, 0))) := ⟨h3_⟩
                              have n4_ : Aside0 (w53.heap[gb331]? = some (.cells #[.int .i64 a2_0, .int .i64 a2_1, .int .u64 a2_2, .string a2_3] 34 (0, 0))) := ⟨h4_⟩
                              have n5_ : Aside0 (Below w.heap.size w w53) := ⟨h5_⟩
                              clear HO_7
                              clear HO_8
                              clear BK330
                              clear BK331
                              clear HB
                              clear h0_ h1_ h2_ h3_ h4_ h5_
                              have HO366 := n0_
                              have HO_7 := n1_
                              have HO_8 := n2_
                              have BK330 := n3_
                              have BK331 := n4_
                              have HB := n5_
                              clear n0_ n1_ n2_ n3_ n4_ n5_
                              have hHeld : w53.cell? ⟨gb330, 0, none⟩ = some (.int .i64 a1_0) ∧ w53.cell? ⟨gb330, 1, none⟩ = some (.int .i64 a1_1) ∧ w53.cell? ⟨gb330, 2, none⟩ = some (.int .u64 a1_2) ∧ w53.cell? ⟨gb330, 3, none⟩ = some (.string a1_3) ∧ w53.cell? ⟨gb331, 0, none⟩ = some (.int .i64 a2_0) ∧ w53.cell? ⟨gb331, 1, none⟩ = some (.int .i64 a2_1) ∧ w53.cell? ⟨gb331, 2, none⟩ = some (.int .u64 a2_2) ∧ w53.cell? ⟨gb331, 3, none⟩ = some (.string a2_3) := hS_
                              refine norm_ (a' := ?_) ?_ ?_
                              rotate_left
                              · simp only [putAll, Act.put, List.setIfInBounds_toArray, List.set_cons_zero, List.set_cons_succ]
                                rfl
                              refine two_ (i := 2) (j := 4) (Ni := some 36) (Nj := some 38) #[true, true, true, true, false, true, true, false, false, false] #[true, true, false, true, true, true, true, false, false, false] rfl rfl rfl rfl (two_of HT_.out (by kernel_rfl)) (by decide) (by decide) (fun K hK => ?_) (fun K hK => ?_)
                              · skip
                                refine goes_ Tryd.func21 (by kernel_rfl) rfl #[.slice Ao48 y341.length co48, .slice Ao49 y353.length co49] (by rfl) rfl rfl (by (try simp only [List.map_toArray, List.map_cons, List.map_nil]); first | done | rfl | (simp only [List.length_drop, List.length_take]; rfl)) ?_
                                with_reducible refine (keys_Cmp.calls kj7 _ _ y341 _ _ y353 t360 _ ?side1 ?side2 ?side3 ?side4 A46.out).mono ?_
                                (case side1 => repeat (first | exact (Kd.R_reads' HO_7.out).2.2 | (with_reducible refine Kd.C_alloc ?_ _) | (with_reducible refine Kd.C_drewN ?_ _) | (with_reducible refine Kd.C_drew ?_)))
                                (case side2 => exact (Kd.R_reads' HO_7.out).2.1)
                                (case side3 => repeat (first | exact (Kd.R_reads' HO_8.out).2.2 | (with_reducible refine Kd.C_alloc ?_ _) | (with_reducible refine Kd.C_drewN ?_ _) | (with_reducible refine Kd.C_drew ?_)))
                                (case side4 => exact (Kd.R_reads' HO_8.out).2.1)
                                rintro e w54 ⟨rfl, hb⟩
                                refine ⟨_, rfl, ?_⟩
                                have n0_ := Aside0.mk (Kd.R_below (by (with_reducible repeat (first | apply Kd.R_alloc | apply Kd.R_drewN | apply Kd.R_drew)); exact HO_7.out) hb)
                                have n1_ := Aside0.mk (Kd.R_below (by (with_reducible repeat (first | apply Kd.R_alloc | apply Kd.R_drewN | apply Kd.R_drew)); exact HO_8.out) hb)
                                have n2_ := Aside0.mk (Kd.R_below (by (with_reducible repeat (first | apply Kd.R_alloc | apply Kd.R_drewN | apply Kd.R_drew)); exact HO366.out) hb)
                                have n3_ := Aside0.mk (blk_below (g := gb330) (o := .cells #[.int .i64 a1_0, .int .i64 a1_1, .int .u64 a1_2, .string a1_3] 34 (0, 0)) (by (with_reducible repeat (first | refine blk_drewN ?_ _ | refine blk_drew ?_ | refine blk_alloc ?_ _)); exact BK330.out) hb)
                                have n4_ := Aside0.mk (blk_below (g := gb331) (o := .cells #[.int .i64 a2_0, .int .i64 a2_1, .int .u64 a2_2, .string a2_3] 34 (0, 0)) (by (with_reducible repeat (first | refine blk_drewN ?_ _ | refine blk_drew ?_ | refine blk_alloc ?_ _)); exact BK331.out) hb)
                                have n5_ := Aside0.mk (below_step (by repeat (first | (with_reducible first | exact HB.out | apply below_alloc | apply pw_below_drewN | apply below_drew1 | refine below_set ?_ GE330.out | refine below_set ?_ GE331.out) | exact HB.out)) hb)
                                clear HO_7
                                clear HO_8
                                clear HO366
                                clear BK330
                                clear BK331
                                clear HB
                                have HO_7 := n0_
                                have HO_8 := n1_
                                have HO366 := n2_
                                have BK330 := n3_
                                have BK331 := n4_
                                have HB := n5_
                                clear n0_ n1_ n2_ n3_ n4_ n5_
                                (try clear hb)
                                (try clear hb2)
                                (try clear hk)
                                (try clear hi)
                                refine hK.out _ _ ⟨(blk_cell BK330.out 0).trans rfl, (blk_cell BK330.out 1).trans rfl, (blk_cell BK330.out 2).trans rfl, (blk_cell BK330.out 3).trans rfl, (blk_cell BK331.out 0).trans rfl, (blk_cell BK331.out 1).trans rfl, (blk_cell BK331.out 2).trans rfl, (blk_cell BK331.out 3).trans rfl⟩ (fun hHeld => ?_)
                                clear hK K
                                refine norm_ (a' := ?_) ?_ ?_
                                rotate_left
                                · show Act.put _ (some 36) _ = _
                                  simp only [Act.put, List.setIfInBounds_toArray, List.set_cons_zero, List.set_cons_succ, i64_w, i32_w]
                                  rfl
                                exact norm_ (by first | (simp only [putAll, Act.put, List.setIfInBounds_toArray, List.set_cons_zero, List.set_cons_succ]; done) | (simp only [putAll, Act.put, List.setIfInBounds_toArray, List.set_cons_zero, List.set_cons_succ]; rfl)) (hJ2_6 (v365) _ ⟨hHeld, (by (with_reducible repeat (first | apply Kd.R_alloc | apply Kd.R_drewN | apply Kd.R_drew)); exact HO366.out), (by (with_reducible repeat (first | apply Kd.R_alloc | apply Kd.R_drewN | apply Kd.R_drew)); exact HO_7.out), (by (with_reducible repeat (first | apply Kd.R_alloc | apply Kd.R_drewN | apply Kd.R_drew)); exact HO_8.out), (by (with_reducible repeat (first | refine blk_drewN ?_ _ | refine blk_drew ?_ | refine blk_alloc ?_ _)); exact BK330.out), (by (with_reducible repeat (first | refine blk_drewN ?_ _ | refine blk_drew ?_ | refine blk_alloc ?_ _)); exact BK331.out), (by repeat (first | (with_reducible first | exact HB.out | apply below_alloc | apply pw_below_drewN | apply below_drew1 | refine below_set ?_ GE330.out | refine below_set ?_ GE331.out) | exact HB.out))⟩)
                              · skip
                                refine Kd.R_lit_step k34 _ 34 ?hg (N := 38) ?hd (xs := ([(⟨a1_0, a1_1, a1_2, a1_3⟩ : S34)] : List (S34))) (inner := [.int .i64 a1_0, .int .i64 a1_1, .int .u64 a1_2, .string a1_3]) (ok := fun _ => True) (okp := fun _ => True) ?hr ?hp (fun _ hk => hk) trivial (Below.refl _ _) (Nat.le_refl _) (by simp) ?_; (case hd => rfl); (case hg => rfl); (case hr => first | (go_simp; done) | (go_simp; rfl)); (case hp => exact (Reps.c4 (show Kd.M k34 _ _ _ (⟨a1_0, a1_1, a1_2, a1_3⟩ : S34) [.int .i64 a1_0, .int .i64 a1_1, .int .u64 a1_2, .string a1_3] from (k34_mkM _ _ _ (⟨a1_0, a1_1, a1_2, a1_3⟩ : S34) )) (Reps.none _ _)))
                                intro v362 w54 ho55 hb hg_ hnew_
                                clear hg_ hnew_
                                (first | rw [← Ny361.out] at ho55 | (simp only [Int.reduceToNat] at ho55; rw [← Ny361.out] at ho55))
                                have n0_ := Aside0.mk (Kd.R_elder' (by (with_reducible repeat (first | apply Kd.R_alloc | apply Kd.R_drewN | apply Kd.R_drew)); exact HO_7.out) (Kd.R_base ho55) hb)
                                have n1_ := Aside0.mk (Kd.R_elder' (by (with_reducible repeat (first | apply Kd.R_alloc | apply Kd.R_drewN | apply Kd.R_drew)); exact HO_8.out) (Kd.R_base ho55) hb)
                                have n2_ := Aside0.mk (Kd.R_elder' (by (with_reducible repeat (first | apply Kd.R_alloc | apply Kd.R_drewN | apply Kd.R_drew)); exact HO366.out) (Kd.R_base ho55) hb)
                                have n3_ := Aside0.mk (Kd.R_lower (Kd.R_newB (Kd.R_newB (Kd.R_new' (Kd.R_new' (Kd.R_new' ho55 (Kd.R_lt (by (with_reducible repeat (first | apply Kd.R_alloc | apply Kd.R_drewN | apply Kd.R_drew)); exact HO_7.out))) (Kd.R_lt (by (with_reducible repeat (first | apply Kd.R_alloc | apply Kd.R_drewN | apply Kd.R_drew)); exact HO_8.out))) (Kd.R_lt (by (with_reducible repeat (first | apply Kd.R_alloc | apply Kd.R_drewN | apply Kd.R_drew)); exact HO366.out))) (g := gb330) (o := .cells #[.int .i64 a1_0, .int .i64 a1_1, .int .u64 a1_2, .string a1_3] 34 (0, 0)) (by (with_reducible repeat (first | refine blk_drewN ?_ _ | refine blk_drew ?_ | refine blk_alloc ?_ _)); exact BK330.out)) (g := gb331) (o := .cells #[.int .i64 a2_0, .int .i64 a2_1, .int .u64 a2_2, .string a2_3] 34 (0, 0)) (by (with_reducible repeat (first | refine blk_drewN ?_ _ | refine blk_drew ?_ | refine blk_alloc ?_ _)); exact BK331.out)) (below_size (by repeat (first | (with_reducible first | exact HB.out | apply below_alloc | apply pw_below_drewN | apply below_drew1 | refine below_set ?_ GE330.out | refine below_set ?_ GE331.out) | exact HB.out))))
                                have n4_ := Aside0.mk (blk_below (g := gb330) (o := .cells #[.int .i64 a1_0, .int .i64 a1_1, .int .u64 a1_2, .string a1_3] 34 (0, 0)) (by (with_reducible repeat (first | refine blk_drewN ?_ _ | refine blk_drew ?_ | refine blk_alloc ?_ _)); exact BK330.out) hb)
                                have n5_ := Aside0.mk (blk_below (g := gb331) (o := .cells #[.int .i64 a2_0, .int .i64 a2_1, .int .u64 a2_2, .string a2_3] 34 (0, 0)) (by (with_reducible repeat (first | refine blk_drewN ?_ _ | refine blk_drew ?_ | refine blk_alloc ?_ _)); exact BK331.out) hb)
                                have n6_ := Aside0.mk (below_step (by repeat (first | (with_reducible first | exact HB.out | apply below_alloc | apply pw_below_drewN | apply below_drew1 | refine below_set ?_ GE330.out | refine below_set ?_ GE331.out) | exact HB.out)) hb)
                                clear HO_7
                                clear HO_8
                                clear HO366
                                clear BK330
                                clear BK331
                                clear HB
                                have HO_7 := n0_
                                have HO_8 := n1_
                                have HO366 := n2_
                                have HO363 := n3_
                                have BK330 := n4_
                                have BK331 := n5_
                                have HB := n6_
                                clear n0_ n1_ n2_ n3_ n4_ n5_ n6_
                                clear hb ho55
                                refine hK.out _ _ ⟨(blk_cell BK330.out 0).trans rfl, (blk_cell BK330.out 1).trans rfl, (blk_cell BK330.out 2).trans rfl, (blk_cell BK330.out 3).trans rfl, (blk_cell BK331.out 0).trans rfl, (blk_cell BK331.out 1).trans rfl, (blk_cell BK331.out 2).trans rfl, (blk_cell BK331.out 3).trans rfl⟩ (fun hHeld => ?_)
                                clear hK K
                                refine norm_ (a' := ?_) ?_ ?_
                                rotate_left
                                · show Act.put _ (some 38) _ = _
                                  simp only [Act.put, List.setIfInBounds_toArray, List.set_cons_zero, List.set_cons_succ, i64_w, i32_w]
                                  rfl
                                exact norm_ (by first | (simp only [putAll, Act.put, List.setIfInBounds_toArray, List.set_cons_zero, List.set_cons_succ]; done) | (simp only [putAll, Act.put, List.setIfInBounds_toArray, List.set_cons_zero, List.set_cons_succ]; rfl)) (hJ4_6 (v362, v365) _ ⟨hHeld, (by (with_reducible repeat (first | apply Kd.R_alloc | apply Kd.R_drewN | apply Kd.R_drew)); exact Kd.R_mono HO363.out (fun _ hk => ⟨hk.1.1.2, ⟨hk.1.1.1.1.2, ⟨hk.1.1.1.2, ⟨hk.1.2, hk.2⟩⟩⟩⟩)), (by (with_reducible repeat (first | apply Kd.R_alloc | apply Kd.R_drewN | apply Kd.R_drew)); exact Kd.R_mono HO366.out (fun _ hk => ⟨hk.2, ⟨hk.1.1, ⟨hk.1.2.1, ⟨hk.1.2.2.1, hk.1.2.2.2⟩⟩⟩⟩)), (by (with_reducible repeat (first | apply Kd.R_alloc | apply Kd.R_drewN | apply Kd.R_drew)); exact Kd.R_mono HO_7.out (fun _ hk => ⟨hk.2, ⟨hk.1.1, ⟨hk.1.2.1, ⟨hk.1.2.2.1, hk.1.2.2.2⟩⟩⟩⟩)), (by (with_reducible repeat (first | apply Kd.R_alloc | apply Kd.R_drewN | apply Kd.R_drew)); exact Kd.R_mono HO_8.out (fun _ hk => ⟨hk.2, ⟨hk.1.1, ⟨hk.1.2.1, ⟨hk.1.2.2.1, hk.1.2.2.2⟩⟩⟩⟩)), (by (with_reducible repeat (first | refine blk_drewN ?_ _ | refine blk_drew ?_ | refine blk_alloc ?_ _)); exact BK330.out), (by (with_reducible repeat (first | refine blk_drewN ?_ _ | refine blk_drew ?_ | refine blk_alloc ?_ _)); exact BK331.out), (by repeat (first | (with_reducible first | exact HB.out | apply below_alloc | apply pw_below_drewN | apply below_drew1 | refine below_set ?_ GE330.out | refine below_set ?_ GE331.out) | exact HB.out))⟩)
                          · skip
                            rintro v362 w53 ⟨hS_, h0_, h1_, h2_, h3_, h4_, h5_⟩
                            have n0_ : Aside0 (Kd.R k34 34 w53 w.heap.size (fun k_ => some k_ ≠ (.slice Ao48 y341.length co48 : Value).ownBlock ∧ some k_ ≠ (.slice Ao49 y353.length co49 : Value).ownBlock ∧ k_ ≠ gb330 ∧ k_ ≠ gb331) v362 y361) := ⟨h0_⟩
                            have n1_ : Aside0 (Kd.R k34 34 w53 w.heap.size (fun k_ => some k_ ≠ (v362 : Value).ownBlock ∧ some k_ ≠ (.slice Ao49 y353.length co49 : Value).ownBlock ∧ k_ ≠ gb330 ∧ k_ ≠ gb331) (.slice Ao48 y341.length co48) y341) := ⟨h1_⟩
                            have n2_ : Aside0 (Kd.R k34 34 w53 w.heap.size (fun k_ => some k_ ≠ (v362 : Value).ownBlock ∧ some k_ ≠ (.slice Ao48 y341.length co48 : Value).ownBlock ∧ k_ ≠ gb330 ∧ k_ ≠ gb331) (.slice Ao49 y353.length co49) y353) := ⟨h2_⟩
                            have n3_ : Aside0 (w53.heap[gb330]? = some (.cells #[.int .i64 a1_0, .int .i64 a1_1, .int .u64 a1_2, .string a1_3] 34 (0, 0))) := ⟨h3_⟩
                            have n4_ : Aside0 (w53.heap[gb331]? = some (.cells #[.int .i64 a2_0, .int .i64 a2_1, .int .u64 a2_2, .string a2_3] 34 (0, 0))) := ⟨h4_⟩
                            have n5_ : Aside0 (Below w.heap.size w w53) := ⟨h5_⟩
                            clear HO_7
                            clear HO_8
                            clear BK330
                            clear BK331
                            clear HB
                            clear h0_ h1_ h2_ h3_ h4_ h5_
                            have HO363 := n0_
                            have HO_7 := n1_
                            have HO_8 := n2_
                            have BK330 := n3_
                            have BK331 := n4_
                            have HB := n5_
                            clear n0_ n1_ n2_ n3_ n4_ n5_
                            have hHeld : w53.cell? ⟨gb330, 0, none⟩ = some (.int .i64 a1_0) ∧ w53.cell? ⟨gb330, 1, none⟩ = some (.int .i64 a1_1) ∧ w53.cell? ⟨gb330, 2, none⟩ = some (.int .u64 a1_2) ∧ w53.cell? ⟨gb330, 3, none⟩ = some (.string a1_3) ∧ w53.cell? ⟨gb331, 0, none⟩ = some (.int .i64 a2_0) ∧ w53.cell? ⟨gb331, 1, none⟩ = some (.int .i64 a2_1) ∧ w53.cell? ⟨gb331, 2, none⟩ = some (.int .u64 a2_2) ∧ w53.cell? ⟨gb331, 3, none⟩ = some (.string a2_3) := hS_
                            refine norm_ (a' := ?_) ?_ ?_
                            rotate_left
                            · simp only [putAll, Act.put, List.setIfInBounds_toArray, List.set_cons_zero, List.set_cons_succ]
                              rfl
                            refine two_ (i := 2) (j := 6) (Ni := some 36) (Nj := some 40) #[true, true, true, true, true, true, false, false, false, false] #[true, true, false, true, true, true, true, false, false, false] rfl rfl rfl rfl (two_of HT_.out (by kernel_rfl)) (by decide) (by decide) (fun K hK => ?_) (fun K hK => ?_)
                            · skip
                              refine goes_ Tryd.func21 (by kernel_rfl) rfl #[.slice Ao48 y341.length co48, .slice Ao49 y353.length co49] (by rfl) rfl rfl (by (try simp only [List.map_toArray, List.map_cons, List.map_nil]); first | done | rfl | (simp only [List.length_drop, List.length_take]; rfl)) ?_
                              with_reducible refine (keys_Cmp.calls kj7 _ _ y341 _ _ y353 t360 _ ?side1 ?side2 ?side3 ?side4 A46.out).mono ?_
                              (case side1 => repeat (first | exact (Kd.R_reads' HO_7.out).2.2 | (with_reducible refine Kd.C_alloc ?_ _) | (with_reducible refine Kd.C_drewN ?_ _) | (with_reducible refine Kd.C_drew ?_)))
                              (case side2 => exact (Kd.R_reads' HO_7.out).2.1)
                              (case side3 => repeat (first | exact (Kd.R_reads' HO_8.out).2.2 | (with_reducible refine Kd.C_alloc ?_ _) | (with_reducible refine Kd.C_drewN ?_ _) | (with_reducible refine Kd.C_drew ?_)))
                              (case side4 => exact (Kd.R_reads' HO_8.out).2.1)
                              rintro e w54 ⟨rfl, hb⟩
                              refine ⟨_, rfl, ?_⟩
                              have n0_ := Aside0.mk (Kd.R_below (by (with_reducible repeat (first | apply Kd.R_alloc | apply Kd.R_drewN | apply Kd.R_drew)); exact HO_7.out) hb)
                              have n1_ := Aside0.mk (Kd.R_below (by (with_reducible repeat (first | apply Kd.R_alloc | apply Kd.R_drewN | apply Kd.R_drew)); exact HO_8.out) hb)
                              have n2_ := Aside0.mk (Kd.R_below (by (with_reducible repeat (first | apply Kd.R_alloc | apply Kd.R_drewN | apply Kd.R_drew)); exact HO363.out) hb)
                              have n3_ := Aside0.mk (blk_below (g := gb330) (o := .cells #[.int .i64 a1_0, .int .i64 a1_1, .int .u64 a1_2, .string a1_3] 34 (0, 0)) (by (with_reducible repeat (first | refine blk_drewN ?_ _ | refine blk_drew ?_ | refine blk_alloc ?_ _)); exact BK330.out) hb)
                              have n4_ := Aside0.mk (blk_below (g := gb331) (o := .cells #[.int .i64 a2_0, .int .i64 a2_1, .int .u64 a2_2, .string a2_3] 34 (0, 0)) (by (with_reducible repeat (first | refine blk_drewN ?_ _ | refine blk_drew ?_ | refine blk_alloc ?_ _)); exact BK331.out) hb)
                              have n5_ := Aside0.mk (below_step (by repeat (first | (with_reducible first | exact HB.out | apply below_alloc | apply pw_below_drewN | apply below_drew1 | refine below_set ?_ GE330.out | refine below_set ?_ GE331.out) | exact HB.out)) hb)
                              clear HO_7
                              clear HO_8
                              clear HO363
                              clear BK330
                              clear BK331
                              clear HB
                              have HO_7 := n0_
                              have HO_8 := n1_
                              have HO363 := n2_
                              have BK330 := n3_
                              have BK331 := n4_
                              have HB := n5_
                              clear n0_ n1_ n2_ n3_ n4_ n5_
                              (try clear hb)
                              (try clear hb2)
                              (try clear hk)
                              (try clear hi)
                              refine hK.out _ _ ⟨(blk_cell BK330.out 0).trans rfl, (blk_cell BK330.out 1).trans rfl, (blk_cell BK330.out 2).trans rfl, (blk_cell BK330.out 3).trans rfl, (blk_cell BK331.out 0).trans rfl, (blk_cell BK331.out 1).trans rfl, (blk_cell BK331.out 2).trans rfl, (blk_cell BK331.out 3).trans rfl⟩ (fun hHeld => ?_)
                              clear hK K
                              refine norm_ (a' := ?_) ?_ ?_
                              rotate_left
                              · show Act.put _ (some 36) _ = _
                                simp only [Act.put, List.setIfInBounds_toArray, List.set_cons_zero, List.set_cons_succ, i64_w, i32_w]
                                rfl
                              exact norm_ (by first | (simp only [putAll, Act.put, List.setIfInBounds_toArray, List.set_cons_zero, List.set_cons_succ]; done) | (simp only [putAll, Act.put, List.setIfInBounds_toArray, List.set_cons_zero, List.set_cons_succ]; rfl)) (hJ2_4 (v362) _ ⟨hHeld, (by (with_reducible repeat (first | apply Kd.R_alloc | apply Kd.R_drewN | apply Kd.R_drew)); exact HO363.out), (by (with_reducible repeat (first | apply Kd.R_alloc | apply Kd.R_drewN | apply Kd.R_drew)); exact HO_7.out), (by (with_reducible repeat (first | apply Kd.R_alloc | apply Kd.R_drewN | apply Kd.R_drew)); exact HO_8.out), (by (with_reducible repeat (first | refine blk_drewN ?_ _ | refine blk_drew ?_ | refine blk_alloc ?_ _)); exact BK330.out), (by (with_reducible repeat (first | refine blk_drewN ?_ _ | refine blk_drew ?_ | refine blk_alloc ?_ _)); exact BK331.out), (by repeat (first | (with_reducible first | exact HB.out | apply below_alloc | apply pw_below_drewN | apply below_drew1 | refine below_set ?_ GE330.out | refine below_set ?_ GE331.out) | exact HB.out))⟩)
                            · skip
                              refine Kd.R_lit_step k34 _ 34 ?hg (N := 40) ?hd (xs := ([(⟨a2_0, a2_1, a2_2, a2_3⟩ : S34)] : List (S34))) (inner := [.int .i64 a2_0, .int .i64 a2_1, .int .u64 a2_2, .string a2_3]) (ok := fun _ => True) (okp := fun _ => True) ?hr ?hp (fun _ hk => hk) trivial (Below.refl _ _) (Nat.le_refl _) (by simp) ?_; (case hd => rfl); (case hg => rfl); (case hr => first | (go_simp; done) | (go_simp; rfl)); (case hp => exact (Reps.c4 (show Kd.M k34 _ _ _ (⟨a2_0, a2_1, a2_2, a2_3⟩ : S34) [.int .i64 a2_0, .int .i64 a2_1, .int .u64 a2_2, .string a2_3] from (k34_mkM _ _ _ (⟨a2_0, a2_1, a2_2, a2_3⟩ : S34) )) (Reps.none _ _)))
                              intro v365 w54 ho55 hb hg_ hnew_
                              clear hg_ hnew_
                              (first | rw [← Ny364.out] at ho55 | (simp only [Int.reduceToNat] at ho55; rw [← Ny364.out] at ho55))
                              have n0_ := Aside0.mk (Kd.R_elder' (by (with_reducible repeat (first | apply Kd.R_alloc | apply Kd.R_drewN | apply Kd.R_drew)); exact HO_7.out) (Kd.R_base ho55) hb)
                              have n1_ := Aside0.mk (Kd.R_elder' (by (with_reducible repeat (first | apply Kd.R_alloc | apply Kd.R_drewN | apply Kd.R_drew)); exact HO_8.out) (Kd.R_base ho55) hb)
                              have n2_ := Aside0.mk (Kd.R_elder' (by (with_reducible repeat (first | apply Kd.R_alloc | apply Kd.R_drewN | apply Kd.R_drew)); exact HO363.out) (Kd.R_base ho55) hb)
                              have n3_ := Aside0.mk (Kd.R_lower (Kd.R_newB (Kd.R_newB (Kd.R_new' (Kd.R_new' (Kd.R_new' ho55 (Kd.R_lt (by (with_reducible repeat (first | apply Kd.R_alloc | apply Kd.R_drewN | apply Kd.R_drew)); exact HO_7.out))) (Kd.R_lt (by (with_reducible repeat (first | apply Kd.R_alloc | apply Kd.R_drewN | apply Kd.R_drew)); exact HO_8.out))) (Kd.R_lt (by (with_reducible repeat (first | apply Kd.R_alloc | apply Kd.R_drewN | apply Kd.R_drew)); exact HO363.out))) (g := gb330) (o := .cells #[.int .i64 a1_0, .int .i64 a1_1, .int .u64 a1_2, .string a1_3] 34 (0, 0)) (by (with_reducible repeat (first | refine blk_drewN ?_ _ | refine blk_drew ?_ | refine blk_alloc ?_ _)); exact BK330.out)) (g := gb331) (o := .cells #[.int .i64 a2_0, .int .i64 a2_1, .int .u64 a2_2, .string a2_3] 34 (0, 0)) (by (with_reducible repeat (first | refine blk_drewN ?_ _ | refine blk_drew ?_ | refine blk_alloc ?_ _)); exact BK331.out)) (below_size (by repeat (first | (with_reducible first | exact HB.out | apply below_alloc | apply pw_below_drewN | apply below_drew1 | refine below_set ?_ GE330.out | refine below_set ?_ GE331.out) | exact HB.out))))
                              have n4_ := Aside0.mk (blk_below (g := gb330) (o := .cells #[.int .i64 a1_0, .int .i64 a1_1, .int .u64 a1_2, .string a1_3] 34 (0, 0)) (by (with_reducible repeat (first | refine blk_drewN ?_ _ | refine blk_drew ?_ | refine blk_alloc ?_ _)); exact BK330.out) hb)
                              have n5_ := Aside0.mk (blk_below (g := gb331) (o := .cells #[.int .i64 a2_0, .int .i64 a2_1, .int .u64 a2_2, .string a2_3] 34 (0, 0)) (by (with_reducible repeat (first | refine blk_drewN ?_ _ | refine blk_drew ?_ | refine blk_alloc ?_ _)); exact BK331.out) hb)
                              have n6_ := Aside0.mk (below_step (by repeat (first | (with_reducible first | exact HB.out | apply below_alloc | apply pw_below_drewN | apply below_drew1 | refine below_set ?_ GE330.out | refine below_set ?_ GE331.out) | exact HB.out)) hb)
                              clear HO_7
                              clear HO_8
                              clear HO363
                              clear BK330
                              clear BK331
                              clear HB
                              have HO_7 := n0_
                              have HO_8 := n1_
                              have HO363 := n2_
                              have HO366 := n3_
                              have BK330 := n4_
                              have BK331 := n5_
                              have HB := n6_
                              clear n0_ n1_ n2_ n3_ n4_ n5_ n6_
                              clear hb ho55
                              refine hK.out _ _ ⟨(blk_cell BK330.out 0).trans rfl, (blk_cell BK330.out 1).trans rfl, (blk_cell BK330.out 2).trans rfl, (blk_cell BK330.out 3).trans rfl, (blk_cell BK331.out 0).trans rfl, (blk_cell BK331.out 1).trans rfl, (blk_cell BK331.out 2).trans rfl, (blk_cell BK331.out 3).trans rfl⟩ (fun hHeld => ?_)
                              clear hK K
                              refine norm_ (a' := ?_) ?_ ?_
                              rotate_left
                              · show Act.put _ (some 40) _ = _
                                simp only [Act.put, List.setIfInBounds_toArray, List.set_cons_zero, List.set_cons_succ, i64_w, i32_w]
                                rfl
                              exact norm_ (by first | (simp only [putAll, Act.put, List.setIfInBounds_toArray, List.set_cons_zero, List.set_cons_succ]; done) | (simp only [putAll, Act.put, List.setIfInBounds_toArray, List.set_cons_zero, List.set_cons_succ]; rfl)) (hJ4_6 (v362, v365) _ ⟨hHeld, (by (with_reducible repeat (first | apply Kd.R_alloc | apply Kd.R_drewN | apply Kd.R_drew)); exact Kd.R_mono HO363.out (fun _ hk => ⟨hk.2, ⟨hk.1.1, ⟨hk.1.2.1, ⟨hk.1.2.2.1, hk.1.2.2.2⟩⟩⟩⟩)), (by (with_reducible repeat (first | apply Kd.R_alloc | apply Kd.R_drewN | apply Kd.R_drew)); exact Kd.R_mono HO366.out (fun _ hk => ⟨hk.1.1.2, ⟨hk.1.1.1.1.2, ⟨hk.1.1.1.2, ⟨hk.1.2, hk.2⟩⟩⟩⟩)), (by (with_reducible repeat (first | apply Kd.R_alloc | apply Kd.R_drewN | apply Kd.R_drew)); exact Kd.R_mono HO_7.out (fun _ hk => ⟨hk.1.1, ⟨hk.2, ⟨hk.1.2.1, ⟨hk.1.2.2.1, hk.1.2.2.2⟩⟩⟩⟩)), (by (with_reducible repeat (first | apply Kd.R_alloc | apply Kd.R_drewN | apply Kd.R_drew)); exact Kd.R_mono HO_8.out (fun _ hk => ⟨hk.1.1, ⟨hk.2, ⟨hk.1.2.1, ⟨hk.1.2.2.1, hk.1.2.2.2⟩⟩⟩⟩)), (by (with_reducible repeat (first | refine blk_drewN ?_ _ | refine blk_drew ?_ | refine blk_alloc ?_ _)); exact BK330.out), (by (with_reducible repeat (first | refine blk_drewN ?_ _ | refine blk_drew ?_ | refine blk_alloc ?_ _)); exact BK331.out), (by repeat (first | (with_reducible first | exact HB.out | apply below_alloc | apply pw_below_drewN | apply below_drew1 | refine below_set ?_ GE330.out | refine below_set ?_ GE331.out) | exact HB.out))⟩)
                        · skip
                          rintro _ w52 ⟨hS_, h0_, h1_, h2_, h3_, h4_⟩
                          have n0_ : Aside0 (Kd.R k34 34 w52 w.heap.size (fun k_ => some k_ ≠ (.slice Ao49 y353.length co49 : Value).ownBlock ∧ k_ ≠ gb330 ∧ k_ ≠ gb331) (.slice Ao48 y341.length co48) y341) := ⟨h0_⟩
                          have n1_ : Aside0 (Kd.R k34 34 w52 w.heap.size (fun k_ => some k_ ≠ (.slice Ao48 y341.length co48 : Value).ownBlock ∧ k_ ≠ gb330 ∧ k_ ≠ gb331) (.slice Ao49 y353.length co49) y353) := ⟨h1_⟩
                          have n2_ : Aside0 (w52.heap[gb330]? = some (.cells #[.int .i64 a1_0, .int .i64 a1_1, .int .u64 a1_2, .string a1_3] 34 (0, 0))) := ⟨h2_⟩
                          have n3_ : Aside0 (w52.heap[gb331]? = some (.cells #[.int .i64 a2_0, .int .i64 a2_1, .int .u64 a2_2, .string a2_3] 34 (0, 0))) := ⟨h3_⟩
                          have n4_ : Aside0 (Below w.heap.size w w52) := ⟨h4_⟩
                          clear HO_7
                          clear HO_8
                          clear BK330
                          clear BK331
                          clear HB
                          clear h0_ h1_ h2_ h3_ h4_
                          have HO_7 := n0_
                          have HO_8 := n1_
                          have BK330 := n2_
                          have BK331 := n3_
                          have HB := n4_
                          clear n0_ n1_ n2_ n3_ n4_
                          have hHeld : w52.cell? ⟨gb330, 0, none⟩ = some (.int .i64 a1_0) ∧ w52.cell? ⟨gb330, 1, none⟩ = some (.int .i64 a1_1) ∧ w52.cell? ⟨gb330, 2, none⟩ = some (.int .u64 a1_2) ∧ w52.cell? ⟨gb330, 3, none⟩ = some (.string a1_3) ∧ w52.cell? ⟨gb331, 0, none⟩ = some (.int .i64 a2_0) ∧ w52.cell? ⟨gb331, 1, none⟩ = some (.int .i64 a2_1) ∧ w52.cell? ⟨gb331, 2, none⟩ = some (.int .u64 a2_2) ∧ w52.cell? ⟨gb331, 3, none⟩ = some (.string a2_3) := hS_
                          refine norm_ (a' := ?_) ?_ ?_
                          rotate_left
                          · simp only [putAll, Act.put, List.setIfInBounds_toArray, List.set_cons_zero, List.set_cons_succ]
                            rfl
                          refine two_ (i := 4) (j := 6) (Ni := some 38) (Nj := some 40) #[true, true, true, true, true, true, false, false, false, false] #[true, true, true, true, false, true, true, false, false, false] rfl rfl rfl rfl (two_of HT_.out (by kernel_rfl)) (by decide) (by decide) (fun K hK => ?_) (fun K hK => ?_)
                          · skip
                            refine Kd.R_lit_step k34 _ 34 ?hg (N := 38) ?hd (xs := ([(⟨a1_0, a1_1, a1_2, a1_3⟩ : S34)] : List (S34))) (inner := [.int .i64 a1_0, .int .i64 a1_1, .int .u64 a1_2, .string a1_3]) (ok := fun _ => True) (okp := fun _ => True) ?hr ?hp (fun _ hk => hk) trivial (Below.refl _ _) (Nat.le_refl _) (by simp) ?_; (case hd => rfl); (case hg => rfl); (case hr => first | (go_simp; done) | (go_simp; rfl)); (case hp => exact (Reps.c4 (show Kd.M k34 _ _ _ (⟨a1_0, a1_1, a1_2, a1_3⟩ : S34) [.int .i64 a1_0, .int .i64 a1_1, .int .u64 a1_2, .string a1_3] from (k34_mkM _ _ _ (⟨a1_0, a1_1, a1_2, a1_3⟩ : S34) )) (Reps.none _ _)))
                            intro v362 w53 ho54 hb hg_ hnew_
                            clear hg_ hnew_
                            (first | rw [← Ny361.out] at ho54 | (simp only [Int.reduceToNat] at ho54; rw [← Ny361.out] at ho54))
                            have n0_ := Aside0.mk (Kd.R_elder' (by (with_reducible repeat (first | apply Kd.R_alloc | apply Kd.R_drewN | apply Kd.R_drew)); exact HO_7.out) (Kd.R_base ho54) hb)
                            have n1_ := Aside0.mk (Kd.R_elder' (by (with_reducible repeat (first | apply Kd.R_alloc | apply Kd.R_drewN | apply Kd.R_drew)); exact HO_8.out) (Kd.R_base ho54) hb)
                            have n2_ := Aside0.mk (Kd.R_lower (Kd.R_newB (Kd.R_newB (Kd.R_new' (Kd.R_new' ho54 (Kd.R_lt (by (with_reducible repeat (first | apply Kd.R_alloc | apply Kd.R_drewN | apply Kd.R_drew)); exact HO_7.out))) (Kd.R_lt (by (with_reducible repeat (first | apply Kd.R_alloc | apply Kd.R_drewN | apply Kd.R_drew)); exact HO_8.out))) (g := gb330) (o := .cells #[.int .i64 a1_0, .int .i64 a1_1, .int .u64 a1_2, .string a1_3] 34 (0, 0)) (by (with_reducible repeat (first | refine blk_drewN ?_ _ | refine blk_drew ?_ | refine blk_alloc ?_ _)); exact BK330.out)) (g := gb331) (o := .cells #[.int .i64 a2_0, .int .i64 a2_1, .int .u64 a2_2, .string a2_3] 34 (0, 0)) (by (with_reducible repeat (first | refine blk_drewN ?_ _ | refine blk_drew ?_ | refine blk_alloc ?_ _)); exact BK331.out)) (below_size (by repeat (first | (with_reducible first | exact HB.out | apply below_alloc | apply pw_below_drewN | apply below_drew1 | refine below_set ?_ GE330.out | refine below_set ?_ GE331.out) | exact HB.out))))
                            have n3_ := Aside0.mk (blk_below (g := gb330) (o := .cells #[.int .i64 a1_0, .int .i64 a1_1, .int .u64 a1_2, .string a1_3] 34 (0, 0)) (by (with_reducible repeat (first | refine blk_drewN ?_ _ | refine blk_drew ?_ | refine blk_alloc ?_ _)); exact BK330.out) hb)
                            have n4_ := Aside0.mk (blk_below (g := gb331) (o := .cells #[.int .i64 a2_0, .int .i64 a2_1, .int .u64 a2_2, .string a2_3] 34 (0, 0)) (by (with_reducible repeat (first | refine blk_drewN ?_ _ | refine blk_drew ?_ | refine blk_alloc ?_ _)); exact BK331.out) hb)
                            have n5_ := Aside0.mk (below_step (by repeat (first | (with_reducible first | exact HB.out | apply below_alloc | apply pw_below_drewN | apply below_drew1 | refine below_set ?_ GE330.out | refine below_set ?_ GE331.out) | exact HB.out)) hb)
                            clear HO_7
                            clear HO_8
                            clear BK330
                            clear BK331
                            clear HB
                            have HO_7 := n0_
                            have HO_8 := n1_
                            have HO363 := n2_
                            have BK330 := n3_
                            have BK331 := n4_
                            have HB := n5_
                            clear n0_ n1_ n2_ n3_ n4_ n5_
                            clear hb ho54
                            refine hK.out _ _ ⟨(blk_cell BK330.out 0).trans rfl, (blk_cell BK330.out 1).trans rfl, (blk_cell BK330.out 2).trans rfl, (blk_cell BK330.out 3).trans rfl, (blk_cell BK331.out 0).trans rfl, (blk_cell BK331.out 1).trans rfl, (blk_cell BK331.out 2).trans rfl, (blk_cell BK331.out 3).trans rfl⟩ (fun hHeld => ?_)
                            clear hK K
                            refine norm_ (a' := ?_) ?_ ?_
                            rotate_left
                            · show Act.put _ (some 38) _ = _
                              simp only [Act.put, List.setIfInBounds_toArray, List.set_cons_zero, List.set_cons_succ, i64_w, i32_w]
                              rfl
                            exact norm_ (by first | (simp only [putAll, Act.put, List.setIfInBounds_toArray, List.set_cons_zero, List.set_cons_succ]; done) | (simp only [putAll, Act.put, List.setIfInBounds_toArray, List.set_cons_zero, List.set_cons_succ]; rfl)) (hJ2_4 (v362) _ ⟨hHeld, (by (with_reducible repeat (first | apply Kd.R_alloc | apply Kd.R_drewN | apply Kd.R_drew)); exact Kd.R_mono HO363.out (fun _ hk => ⟨hk.1.1.1.2, ⟨hk.1.1.2, ⟨hk.1.2, hk.2⟩⟩⟩)), (by (with_reducible repeat (first | apply Kd.R_alloc | apply Kd.R_drewN | apply Kd.R_drew)); exact Kd.R_mono HO_7.out (fun _ hk => ⟨hk.2, ⟨hk.1.1, ⟨hk.1.2.1, hk.1.2.2⟩⟩⟩)), (by (with_reducible repeat (first | apply Kd.R_alloc | apply Kd.R_drewN | apply Kd.R_drew)); exact Kd.R_mono HO_8.out (fun _ hk => ⟨hk.2, ⟨hk.1.1, ⟨hk.1.2.1, hk.1.2.2⟩⟩⟩)), (by (with_reducible repeat (first | refine blk_drewN ?_ _ | refine blk_drew ?_ | refine blk_alloc ?_ _)); exact BK330.out), (by (with_reducible repeat (first | refine blk_drewN ?_ _ | refine blk_drew ?_ | refine blk_alloc ?_ _)); exact BK331.out), (by repeat (first | (with_reducible first | exact HB.out | apply below_alloc | apply pw_below_drewN | apply below_drew1 | refine below_set ?_ GE330.out | refine below_set ?_ GE331.out) | exact HB.out))⟩)
                          · skip
                            refine Kd.R_lit_step k34 _ 34 ?hg (N := 40) ?hd (xs := ([(⟨a2_0, a2_1, a2_2, a2_3⟩ : S34)] : List (S34))) (inner := [.int .i64 a2_0, .int .i64 a2_1, .int .u64 a2_2, .string a2_3]) (ok := fun _ => True) (okp := fun _ => True) ?hr ?hp (fun _ hk => hk) trivial (Below.refl _ _) (Nat.le_refl _) (by simp) ?_; (case hd => rfl); (case hg => rfl); (case hr => first | (go_simp; done) | (go_simp; rfl)); (case hp => exact (Reps.c4 (show Kd.M k34 _ _ _ (⟨a2_0, a2_1, a2_2, a2_3⟩ : S34) [.int .i64 a2_0, .int .i64 a2_1, .int .u64 a2_2, .string a2_3] from (k34_mkM _ _ _ (⟨a2_0, a2_1, a2_2, a2_3⟩ : S34) )) (Reps.none _ _)))
                            intro v365 w53 ho54 hb hg_ hnew_
                            clear hg_ hnew_
                            (first | rw [← Ny364.out] at ho54 | (simp only [Int.reduceToNat] at ho54; rw [← Ny364.out] at ho54))
                            have n0_ := Aside0.mk (Kd.R_elder' (by (with_reducible repeat (first | apply Kd.R_alloc | apply Kd.R_drewN | apply Kd.R_drew)); exact HO_7.out) (Kd.R_base ho54) hb)
                            have n1_ := Aside0.mk (Kd.R_elder' (by (with_reducible repeat (first | apply Kd.R_alloc | apply Kd.R_drewN | apply Kd.R_drew)); exact HO_8.out) (Kd.R_base ho54) hb)
                            have n2_ := Aside0.mk (Kd.R_lower (Kd.R_newB (Kd.R_newB (Kd.R_new' (Kd.R_new' ho54 (Kd.R_lt (by (with_reducible repeat (first | apply Kd.R_alloc | apply Kd.R_drewN | apply Kd.R_drew)); exact HO_7.out))) (Kd.R_lt (by (with_reducible repeat (first | apply Kd.R_alloc | apply Kd.R_drewN | apply Kd.R_drew)); exact HO_8.out))) (g := gb330) (o := .cells #[.int .i64 a1_0, .int .i64 a1_1, .int .u64 a1_2, .string a1_3] 34 (0, 0)) (by (with_reducible repeat (first | refine blk_drewN ?_ _ | refine blk_drew ?_ | refine blk_alloc ?_ _)); exact BK330.out)) (g := gb331) (o := .cells #[.int .i64 a2_0, .int .i64 a2_1, .int .u64 a2_2, .string a2_3] 34 (0, 0)) (by (with_reducible repeat (first | refine blk_drewN ?_ _ | refine blk_drew ?_ | refine blk_alloc ?_ _)); exact BK331.out)) (below_size (by repeat (first | (with_reducible first | exact HB.out | apply below_alloc | apply pw_below_drewN | apply below_drew1 | refine below_set ?_ GE330.out | refine below_set ?_ GE331.out) | exact HB.out))))
                            have n3_ := Aside0.mk (blk_below (g := gb330) (o := .cells #[.int .i64 a1_0, .int .i64 a1_1, .int .u64 a1_2, .string a1_3] 34 (0, 0)) (by (with_reducible repeat (first | refine blk_drewN ?_ _ | refine blk_drew ?_ | refine blk_alloc ?_ _)); exact BK330.out) hb)
                            have n4_ := Aside0.mk (blk_below (g := gb331) (o := .cells #[.int .i64 a2_0, .int .i64 a2_1, .int .u64 a2_2, .string a2_3] 34 (0, 0)) (by (with_reducible repeat (first | refine blk_drewN ?_ _ | refine blk_drew ?_ | refine blk_alloc ?_ _)); exact BK331.out) hb)
                            have n5_ := Aside0.mk (below_step (by repeat (first | (with_reducible first | exact HB.out | apply below_alloc | apply pw_below_drewN | apply below_drew1 | refine below_set ?_ GE330.out | refine below_set ?_ GE331.out) | exact HB.out)) hb)
                            clear HO_7
                            clear HO_8
                            clear BK330
                            clear BK331
                            clear HB
                            have HO_7 := n0_
                            have HO_8 := n1_
                            have HO366 := n2_
                            have BK330 := n3_
                            have BK331 := n4_
                            have HB := n5_
                            clear n0_ n1_ n2_ n3_ n4_ n5_
                            clear hb ho54
                            refine hK.out _ _ ⟨(blk_cell BK330.out 0).trans rfl, (blk_cell BK330.out 1).trans rfl, (blk_cell BK330.out 2).trans rfl, (blk_cell BK330.out 3).trans rfl, (blk_cell BK331.out 0).trans rfl, (blk_cell BK331.out 1).trans rfl, (blk_cell BK331.out 2).trans rfl, (blk_cell BK331.out 3).trans rfl⟩ (fun hHeld => ?_)
                            clear hK K
                            refine norm_ (a' := ?_) ?_ ?_
                            rotate_left
                            · show Act.put _ (some 40) _ = _
                              simp only [Act.put, List.setIfInBounds_toArray, List.set_cons_zero, List.set_cons_succ, i64_w, i32_w]
                              rfl
                            exact norm_ (by first | (simp only [putAll, Act.put, List.setIfInBounds_toArray, List.set_cons_zero, List.set_cons_succ]; done) | (simp only [putAll, Act.put, List.setIfInBounds_toArray, List.set_cons_zero, List.set_cons_succ]; rfl)) (hJ2_6 (v365) _ ⟨hHeld, (by (with_reducible repeat (first | apply Kd.R_alloc | apply Kd.R_drewN | apply Kd.R_drew)); exact Kd.R_mono HO366.out (fun _ hk => ⟨hk.1.1.1.2, ⟨hk.1.1.2, ⟨hk.1.2, hk.2⟩⟩⟩)), (by (with_reducible repeat (first | apply Kd.R_alloc | apply Kd.R_drewN | apply Kd.R_drew)); exact Kd.R_mono HO_7.out (fun _ hk => ⟨hk.2, ⟨hk.1.1, ⟨hk.1.2.1, hk.1.2.2⟩⟩⟩)), (by (with_reducible repeat (first | apply Kd.R_alloc | apply Kd.R_drewN | apply Kd.R_drew)); exact Kd.R_mono HO_8.out (fun _ hk => ⟨hk.2, ⟨hk.1.1, ⟨hk.1.2.1, hk.1.2.2⟩⟩⟩)), (by (with_reducible repeat (first | refine blk_drewN ?_ _ | refine blk_drew ?_ | refine blk_alloc ?_ _)); exact BK330.out), (by (with_reducible repeat (first | refine blk_drewN ?_ _ | refine blk_drew ?_ | refine blk_alloc ?_ _)); exact BK331.out), (by repeat (first | (with_reducible first | exact HB.out | apply below_alloc | apply pw_below_drewN | apply below_drew1 | refine below_set ?_ GE330.out | refine below_set ?_ GE331.out) | exact HB.out))⟩)
                      · skip
                        rintro ⟨v362, v365⟩ w55 ⟨hS_, h0_, h1_, h2_, h3_, h4_, h5_, h6_⟩
                        have n0_ : Aside0 (Kd.R k34 34 w55 w.heap.size (fun k_ => some k_ ≠ (v365 : Value).ownBlock ∧ some k_ ≠ (.slice Ao48 y341.length co48 : Value).ownBlock ∧ some k_ ≠ (.slice Ao49 y353.length co49 : Value).ownBlock ∧ k_ ≠ gb330 ∧ k_ ≠ gb331) v362 y361) := ⟨h0_⟩
                        have n1_ : Aside0 (Kd.R k34 34 w55 w.heap.size (fun k_ => some k_ ≠ (v362 : Value).ownBlock ∧ some k_ ≠ (.slice Ao48 y341.length co48 : Value).ownBlock ∧ some k_ ≠ (.slice Ao49 y353.length co49 : Value).ownBlock ∧ k_ ≠ gb330 ∧ k_ ≠ gb331) v365 y364) := ⟨h1_⟩
                        have n2_ : Aside0 (Kd.R k34 34 w55 w.heap.size (fun k_ => some k_ ≠ (v362 : Value).ownBlock ∧ some k_ ≠ (v365 : Value).ownBlock ∧ some k_ ≠ (.slice Ao49 y353.length co49 : Value).ownBlock ∧ k_ ≠ gb330 ∧ k_ ≠ gb331) (.slice Ao48 y341.length co48) y341) := ⟨h2_⟩
                        have n3_ : Aside0 (Kd.R k34 34 w55 w.heap.size (fun k_ => some k_ ≠ (v362 : Value).ownBlock ∧ some k_ ≠ (v365 : Value).ownBlock ∧ some k_ ≠ (.slice Ao48 y341.length co48 : Value).ownBlock ∧ k_ ≠ gb330 ∧ k_ ≠ gb331) (.slice Ao49 y353.length co49) y353) := ⟨h3_⟩
                        have n4_ : Aside0 (w55.heap[gb330]? = some (.cells #[.int .i64 a1_0, .int .i64 a1_1, .int .u64 a1_2, .string a1_3] 34 (0, 0))) := ⟨h4_⟩
                        have n5_ : Aside0 (w55.heap[gb331]? = some (.cells #[.int .i64 a2_0, .int .i64 a2_1, .int .u64 a2_2, .string a2_3] 34 (0, 0))) := ⟨h5_⟩
                        have n6_ : Aside0 (Below w.heap.size w w55) := ⟨h6_⟩
                        clear HO_7
                        clear HO_8
                        clear BK330
                        clear BK331
                        clear HB
                        clear h0_ h1_ h2_ h3_ h4_ h5_ h6_
                        have HO363 := n0_
                        have HO366 := n1_
                        have HO_7 := n2_
                        have HO_8 := n3_
                        have BK330 := n4_
                        have BK331 := n5_
                        have HB := n6_
                        clear n0_ n1_ n2_ n3_ n4_ n5_ n6_
                        have hHeld : w55.cell? ⟨gb330, 0, none⟩ = some (.int .i64 a1_0) ∧ w55.cell? ⟨gb330, 1, none⟩ = some (.int .i64 a1_1) ∧ w55.cell? ⟨gb330, 2, none⟩ = some (.int .u64 a1_2) ∧ w55.cell? ⟨gb330, 3, none⟩ = some (.string a1_3) ∧ w55.cell? ⟨gb331, 0, none⟩ = some (.int .i64 a2_0) ∧ w55.cell? ⟨gb331, 1, none⟩ = some (.int .i64 a2_1) ∧ w55.cell? ⟨gb331, 2, none⟩ = some (.int .u64 a2_2) ∧ w55.cell? ⟨gb331, 3, none⟩ = some (.string a2_3) := hS_
                        refine norm_ (a' := ?_) ?_ ?_
                        rotate_left
                        · simp only [putAll, Act.put, List.setIfInBounds_toArray, List.set_cons_zero, List.set_cons_succ]
                          rfl
                        refine one_ (i := 2) (N := some 36) #[true, true, true, true, true, true, true, false, false, false] rfl rfl (one_of HT_.out (by kernel_rfl)) (by decide) (fun K hK => ?_)
                        refine goes_ Tryd.func21 (by kernel_rfl) rfl #[.slice Ao48 y341.length co48, .slice Ao49 y353.length co49] (by rfl) rfl rfl (by (try simp only [List.map_toArray, List.map_cons, List.map_nil]); first | done | rfl | (simp only [List.length_drop, List.length_take]; rfl)) ?_
                        with_reducible refine (keys_Cmp.calls kj7 _ _ y341 _ _ y353 t360 _ ?side1 ?side2 ?side3 ?side4 A46.out).mono ?_
                        (case side1 => repeat (first | exact (Kd.R_reads' HO_7.out).2.2 | (with_reducible refine Kd.C_alloc ?_ _) | (with_reducible refine Kd.C_drewN ?_ _) | (with_reducible refine Kd.C_drew ?_)))
                        (case side2 => exact (Kd.R_reads' HO_7.out).2.1)
                        (case side3 => repeat (first | exact (Kd.R_reads' HO_8.out).2.2 | (with_reducible refine Kd.C_alloc ?_ _) | (with_reducible refine Kd.C_drewN ?_ _) | (with_reducible refine Kd.C_drew ?_)))
                        (case side4 => exact (Kd.R_reads' HO_8.out).2.1)
                        rintro e w56 ⟨rfl, hb⟩
                        refine ⟨_, rfl, ?_⟩
                        have n0_ := Aside0.mk (Kd.R_below (by (with_reducible repeat (first | apply Kd.R_alloc | apply Kd.R_drewN | apply Kd.R_drew)); exact HO_7.out) hb)
                        have n1_ := Aside0.mk (Kd.R_below (by (with_reducible repeat (first | apply Kd.R_alloc | apply Kd.R_drewN | apply Kd.R_drew)); exact HO_8.out) hb)
                        have n2_ := Aside0.mk (Kd.R_below (by (with_reducible repeat (first | apply Kd.R_alloc | apply Kd.R_drewN | apply Kd.R_drew)); exact HO363.out) hb)
                        have n3_ := Aside0.mk (Kd.R_below (by (with_reducible repeat (first | apply Kd.R_alloc | apply Kd.R_drewN | apply Kd.R_drew)); exact HO366.out) hb)
                        have n4_ := Aside0.mk (blk_below (g := gb330) (o := .cells #[.int .i64 a1_0, .int .i64 a1_1, .int .u64 a1_2, .string a1_3] 34 (0, 0)) (by (with_reducible repeat (first | refine blk_drewN ?_ _ | refine blk_drew ?_ | refine blk_alloc ?_ _)); exact BK330.out) hb)
                        have n5_ := Aside0.mk (blk_below (g := gb331) (o := .cells #[.int .i64 a2_0, .int .i64 a2_1, .int .u64 a2_2, .string a2_3] 34 (0, 0)) (by (with_reducible repeat (first | refine blk_drewN ?_ _ | refine blk_drew ?_ | refine blk_alloc ?_ _)); exact BK331.out) hb)
                        have n6_ := Aside0.mk (below_step (by repeat (first | (with_reducible first | exact HB.out | apply below_alloc | apply pw_below_drewN | apply below_drew1 | refine below_set ?_ GE330.out | refine below_set ?_ GE331.out) | exact HB.out)) hb)
                        clear HO_7
                        clear HO_8
                        clear HO363
                        clear HO366
                        clear BK330
                        clear BK331
                        clear HB
                        have HO_7 := n0_
                        have HO_8 := n1_
                        have HO363 := n2_
                        have HO366 := n3_
                        have BK330 := n4_
                        have BK331 := n5_
                        have HB := n6_
                        clear n0_ n1_ n2_ n3_ n4_ n5_ n6_
                        (try clear hb)
                        (try clear hb2)
                        (try clear hk)
                        (try clear hi)
                        refine hK.out _ _ ⟨(blk_cell BK330.out 0).trans rfl, (blk_cell BK330.out 1).trans rfl, (blk_cell BK330.out 2).trans rfl, (blk_cell BK330.out 3).trans rfl, (blk_cell BK331.out 0).trans rfl, (blk_cell BK331.out 1).trans rfl, (blk_cell BK331.out 2).trans rfl, (blk_cell BK331.out 3).trans rfl⟩ (fun hHeld => ?_)
                        clear hK K
                        refine norm_ (a' := ?_) ?_ ?_
                        rotate_left
                        · show Act.put _ (some 36) _ = _
                          simp only [Act.put, List.setIfInBounds_toArray, List.set_cons_zero, List.set_cons_succ, i64_w, i32_w]
                          rfl
                        exact norm_ (by first | (simp only [putAll, Act.put, List.setIfInBounds_toArray, List.set_cons_zero, List.set_cons_succ]; done) | (simp only [putAll, Act.put, List.setIfInBounds_toArray, List.set_cons_zero, List.set_cons_succ]; rfl)) (hJ2_4_6 (v362, v365) _ ⟨hHeld, (by (with_reducible repeat (first | apply Kd.R_alloc | apply Kd.R_drewN | apply Kd.R_drew)); exact HO363.out), (by (with_reducible repeat (first | apply Kd.R_alloc | apply Kd.R_drewN | apply Kd.R_drew)); exact HO366.out), (by (with_reducible repeat (first | apply Kd.R_alloc | apply Kd.R_drewN | apply Kd.R_drew)); exact HO_7.out), (by (with_reducible repeat (first | apply Kd.R_alloc | apply Kd.R_drewN | apply Kd.R_drew)); exact HO_8.out), (by (with_reducible repeat (first | refine blk_drewN ?_ _ | refine blk_drew ?_ | refine blk_alloc ?_ _)); exact BK330.out), (by (with_reducible repeat (first | refine blk_drewN ?_ _ | refine blk_drew ?_ | refine blk_alloc ?_ _)); exact BK331.out), (by repeat (first | (with_reducible first | exact HB.out | apply below_alloc | apply pw_below_drewN | apply below_drew1 | refine below_set ?_ GE330.out | refine below_set ?_ GE331.out) | exact HB.out))⟩)
                    · skip
                      rintro v365 w54 ⟨hS_, h0_, h1_, h2_, h3_, h4_, h5_⟩
                      have n0_ : Aside0 (Kd.R k34 34 w54 w.heap.size (fun k_ => some k_ ≠ (.slice Ao48 y341.length co48 : Value).ownBlock ∧ some k_ ≠ (.slice Ao49 y353.length co49 : Value).ownBlock ∧ k_ ≠ gb330 ∧ k_ ≠ gb331) v365 y364) := ⟨h0_⟩
                      have n1_ : Aside0 (Kd.R k34 34 w54 w.heap.size (fun k_ => some k_ ≠ (v365 : Value).ownBlock ∧ some k_ ≠ (.slice Ao49 y353.length co49 : Value).ownBlock ∧ k_ ≠ gb330 ∧ k_ ≠ gb331) (.slice Ao48 y341.length co48) y341) := ⟨h1_⟩
                      have n2_ : Aside0 (Kd.R k34 34 w54 w.heap.size (fun k_ => some k_ ≠ (v365 : Value).ownBlock ∧ some k_ ≠ (.slice Ao48 y341.length co48 : Value).ownBlock ∧ k_ ≠ gb330 ∧ k_ ≠ gb331) (.slice Ao49 y353.length co49) y353) := ⟨h2_⟩
                      have n3_ : Aside0 (w54.heap[gb330]? = some (.cells #[.int .i64 a1_0, .int .i64 a1_1, .int .u64 a1_2, .string a1_3] 34 (0, 0))) := ⟨h3_⟩
                      have n4_ : Aside0 (w54.heap[gb331]? = some (.cells #[.int .i64 a2_0, .int .i64 a2_1, .int .u64 a2_2, .string a2_3] 34 (0, 0))) := ⟨h4_⟩
                      have n5_ : Aside0 (Below w.heap.size w w54) := ⟨h5_⟩
                      clear HO_7
                      clear HO_8
                      clear BK330
                      clear BK331
                      clear HB
                      clear h0_ h1_ h2_ h3_ h4_ h5_
                      have HO366 := n0_
                      have HO_7 := n1_
                      have HO_8 := n2_
                      have BK330 := n3_
                      have BK331 := n4_
                      have HB := n5_
                      clear n0_ n1_ n2_ n3_ n4_ n5_
                      have hHeld : w54.cell? ⟨gb330, 0, none⟩ = some (.int .i64 a1_0) ∧ w54.cell? ⟨gb330, 1, none⟩ = some (.int .i64 a1_1) ∧ w54.cell? ⟨gb330, 2, none⟩ = some (.int .u64 a1_2) ∧ w54.cell? ⟨gb330, 3, none⟩ = some (.string a1_3) ∧ w54.cell? ⟨gb331, 0, none⟩ = some (.int .i64 a2_0) ∧ w54.cell? ⟨gb331, 1, none⟩ = some (.int .i64 a2_1) ∧ w54.cell? ⟨gb331, 2, none⟩ = some (.int .u64 a2_2) ∧ w54.cell? ⟨gb331, 3, none⟩ = some (.string a2_3) := hS_
                      refine norm_ (a' := ?_) ?_ ?_
                      rotate_left
                      · simp only [putAll, Act.put, List.setIfInBounds_toArray, List.set_cons_zero, List.set_cons_succ]
                        rfl
                      refine one_ (i := 4) (N := some 38) #[true, true, true, true, true, true, true, false, false, false] rfl rfl (one_of HT_.out (by kernel_rfl)) (by decide) (fun K hK => ?_)
                      refine Kd.R_lit_step k34 _ 34 ?hg (N := 38) ?hd (xs := ([(⟨a1_0, a1_1, a1_2, a1_3⟩ : S34)] : List (S34))) (inner := [.int .i64 a1_0, .int .i64 a1_1, .int .u64 a1_2, .string a1_3]) (ok := fun _ => True) (okp := fun _ => True) ?hr ?hp (fun _ hk => hk) trivial (Below.refl _ _) (Nat.le_refl _) (by simp) ?_; (case hd => rfl); (case hg => rfl); (case hr => first | (go_simp; done) | (go_simp; rfl)); (case hp => exact (Reps.c4 (show Kd.M k34 _ _ _ (⟨a1_0, a1_1, a1_2, a1_3⟩ : S34) [.int .i64 a1_0, .int .i64 a1_1, .int .u64 a1_2, .string a1_3] from (k34_mkM _ _ _ (⟨a1_0, a1_1, a1_2, a1_3⟩ : S34) )) (Reps.none _ _)))
                      intro v362 w55 ho56 hb hg_ hnew_
                      clear hg_ hnew_
                      (first | rw [← Ny361.out] at ho56 | (simp only [Int.reduceToNat] at ho56; rw [← Ny361.out] at ho56))
                      have n0_ := Aside0.mk (Kd.R_elder' (by (with_reducible repeat (first | apply Kd.R_alloc | apply Kd.R_drewN | apply Kd.R_drew)); exact HO_7.out) (Kd.R_base ho56) hb)
                      have n1_ := Aside0.mk (Kd.R_elder' (by (with_reducible repeat (first | apply Kd.R_alloc | apply Kd.R_drewN | apply Kd.R_drew)); exact HO_8.out) (Kd.R_base ho56) hb)
                      have n2_ := Aside0.mk (Kd.R_elder' (by (with_reducible repeat (first | apply Kd.R_alloc | apply Kd.R_drewN | apply Kd.R_drew)); exact HO366.out) (Kd.R_base ho56) hb)
                      have n3_ := Aside0.mk (Kd.R_lower (Kd.R_newB (Kd.R_newB (Kd.R_new' (Kd.R_new' (Kd.R_new' ho56 (Kd.R_lt (by (with_reducible repeat (first | apply Kd.R_alloc | apply Kd.R_drewN | apply Kd.R_drew)); exact HO_7.out))) (Kd.R_lt (by (with_reducible repeat (first | apply Kd.R_alloc | apply Kd.R_drewN | apply Kd.R_drew)); exact HO_8.out))) (Kd.R_lt (by (with_reducible repeat (first | apply Kd.R_alloc | apply Kd.R_drewN | apply Kd.R_drew)); exact HO366.out))) (g := gb330) (o := .cells #[.int .i64 a1_0, .int .i64 a1_1, .int .u64 a1_2, .string a1_3] 34 (0, 0)) (by (with_reducible repeat (first | refine blk_drewN ?_ _ | refine blk_drew ?_ | refine blk_alloc ?_ _)); exact BK330.out)) (g := gb331) (o := .cells #[.int .i64 a2_0, .int .i64 a2_1, .int .u64 a2_2, .string a2_3] 34 (0, 0)) (by (with_reducible repeat (first | refine blk_drewN ?_ _ | refine blk_drew ?_ | refine blk_alloc ?_ _)); exact BK331.out)) (below_size (by repeat (first | (with_reducible first | exact HB.out | apply below_alloc | apply pw_below_drewN | apply below_drew1 | refine below_set ?_ GE330.out | refine below_set ?_ GE331.out) | exact HB.out))))
                      have n4_ := Aside0.mk (blk_below (g := gb330) (o := .cells #[.int .i64 a1_0, .int .i64 a1_1, .int .u64 a1_2, .string a1_3] 34 (0, 0)) (by (with_reducible repeat (first | refine blk_drewN ?_ _ | refine blk_drew ?_ | refine blk_alloc ?_ _)); exact BK330.out) hb)
                      have n5_ := Aside0.mk (blk_below (g := gb331) (o := .cells #[.int .i64 a2_0, .int .i64 a2_1, .int .u64 a2_2, .string a2_3] 34 (0, 0)) (by (with_reducible repeat (first | refine blk_drewN ?_ _ | refine blk_drew ?_ | refine blk_alloc ?_ _)); exact BK331.out) hb)
                      have n6_ := Aside0.mk (below_step (by repeat (first | (with_reducible first | exact HB.out | apply below_alloc | apply pw_below_drewN | apply below_drew1 | refine below_set ?_ GE330.out | refine below_set ?_ GE331.out) | exact HB.out)) hb)
                      clear HO_7
                      clear HO_8
                      clear HO366
                      clear BK330
                      clear BK331
                      clear HB
                      have HO_7 := n0_
                      have HO_8 := n1_
                      have HO366 := n2_
                      have HO363 := n3_
                      have BK330 := n4_
                      have BK331 := n5_
                      have HB := n6_
                      clear n0_ n1_ n2_ n3_ n4_ n5_ n6_
                      clear hb ho56
                      refine hK.out _ _ ⟨(blk_cell BK330.out 0).trans rfl, (blk_cell BK330.out 1).trans rfl, (blk_cell BK330.out 2).trans rfl, (blk_cell BK330.out 3).trans rfl, (blk_cell BK331.out 0).trans rfl, (blk_cell BK331.out 1).trans rfl, (blk_cell BK331.out 2).trans rfl, (blk_cell BK331.out 3).trans rfl⟩ (fun hHeld => ?_)
                      clear hK K
                      refine norm_ (a' := ?_) ?_ ?_
                      rotate_left
                      · show Act.put _ (some 38) _ = _
                        simp only [Act.put, List.setIfInBounds_toArray, List.set_cons_zero, List.set_cons_succ, i64_w, i32_w]
                        rfl
                      exact norm_ (by first | (simp only [putAll, Act.put, List.setIfInBounds_toArray, List.set_cons_zero, List.set_cons_succ]; done) | (simp only [putAll, Act.put, List.setIfInBounds_toArray, List.set_cons_zero, List.set_cons_succ]; rfl)) (hJ2_4_6 (v362, v365) _ ⟨hHeld, (by (with_reducible repeat (first | apply Kd.R_alloc | apply Kd.R_drewN | apply Kd.R_drew)); exact Kd.R_mono HO363.out (fun _ hk => ⟨hk.1.1.2, ⟨hk.1.1.1.1.2, ⟨hk.1.1.1.2, ⟨hk.1.2, hk.2⟩⟩⟩⟩)), (by (with_reducible repeat (first | apply Kd.R_alloc | apply Kd.R_drewN | apply Kd.R_drew)); exact Kd.R_mono HO366.out (fun _ hk => ⟨hk.2, ⟨hk.1.1, ⟨hk.1.2.1, ⟨hk.1.2.2.1, hk.1.2.2.2⟩⟩⟩⟩)), (by (with_reducible repeat (first | apply Kd.R_alloc | apply Kd.R_drewN | apply Kd.R_drew)); exact Kd.R_mono HO_7.out (fun _ hk => ⟨hk.2, ⟨hk.1.1, ⟨hk.1.2.1, ⟨hk.1.2.2.1, hk.1.2.2.2⟩⟩⟩⟩)), (by (with_reducible repeat (first | apply Kd.R_alloc | apply Kd.R_drewN | apply Kd.R_drew)); exact Kd.R_mono HO_8.out (fun _ hk => ⟨hk.2, ⟨hk.1.1, ⟨hk.1.2.1, ⟨hk.1.2.2.1, hk.1.2.2.2⟩⟩⟩⟩)), (by (with_reducible repeat (first | refine blk_drewN ?_ _ | refine blk_drew ?_ | refine blk_alloc ?_ _)); exact BK330.out), (by (with_reducible repeat (first | refine blk_drewN ?_ _ | refine blk_drew ?_ | refine blk_alloc ?_ _)); exact BK331.out), (by repeat (first | (with_reducible first | exact HB.out | apply below_alloc | apply pw_below_drewN | apply below_drew1 | refine below_set ?_ GE330.out | refine below_set ?_ GE331.out) | exact HB.out))⟩)
                  · skip
                    rintro v362 w54 ⟨hS_, h0_, h1_, h2_, h3_, h4_, h5_⟩
                    have n0_ : Aside0 (Kd.R k34 34 w54 w.heap.size (fun k_ => some k_ ≠ (.slice Ao48 y341.length co48 : Value).ownBlock ∧ some k_ ≠ (.slice Ao49 y353.length co49 : Value).ownBlock ∧ k_ ≠ gb330 ∧ k_ ≠ gb331) v362 y361) := ⟨h0_⟩
                    have n1_ : Aside0 (Kd.R k34 34 w54 w.heap.size (fun k_ => some k_ ≠ (v362 : Value).ownBlock ∧ some k_ ≠ (.slice Ao49 y353.length co49 : Value).ownBlock ∧ k_ ≠ gb330 ∧ k_ ≠ gb331) (.slice Ao48 y341.length co48) y341) := ⟨h1_⟩
                    have n2_ : Aside0 (Kd.R k34 34 w54 w.heap.size (fun k_ => some k_ ≠ (v362 : Value).ownBlock ∧ some k_ ≠ (.slice Ao48 y341.length co48 : Value).ownBlock ∧ k_ ≠ gb330 ∧ k_ ≠ gb331) (.slice Ao49 y353.length co49) y353) := ⟨h2_⟩
                    have n3_ : Aside0 (w54.heap[gb330]? = some (.cells #[.int .i64 a1_0, .int .i64 a1_1, .int .u64 a1_2, .string a1_3] 34 (0, 0))) := ⟨h3_⟩
                    have n4_ : Aside0 (w54.heap[gb331]? = some (.cells #[.int .i64 a2_0, .int .i64 a2_1, .int .u64 a2_2, .string a2_3] 34 (0, 0))) := ⟨h4_⟩
                    have n5_ : Aside0 (Below w.heap.size w w54) := ⟨h5_⟩
                    clear HO_7
                    clear HO_8
                    clear BK330
                    clear BK331
                    clear HB
                    clear h0_ h1_ h2_ h3_ h4_ h5_
                    have HO363 := n0_
                    have HO_7 := n1_
                    have HO_8 := n2_
                    have BK330 := n3_
                    have BK331 := n4_
                    have HB := n5_
                    clear n0_ n1_ n2_ n3_ n4_ n5_
                    have hHeld : w54.cell? ⟨gb330, 0, none⟩ = some (.int .i64 a1_0) ∧ w54.cell? ⟨gb330, 1, none⟩ = some (.int .i64 a1_1) ∧ w54.cell? ⟨gb330, 2, none⟩ = some (.int .u64 a1_2) ∧ w54.cell? ⟨gb330, 3, none⟩ = some (.string a1_3) ∧ w54.cell? ⟨gb331, 0, none⟩ = some (.int .i64 a2_0) ∧ w54.cell? ⟨gb331, 1, none⟩ = some (.int .i64 a2_1) ∧ w54.cell? ⟨gb331, 2, none⟩ = some (.int .u64 a2_2) ∧ w54.cell? ⟨gb331, 3, none⟩ = some (.string a2_3) := hS_
                    refine norm_ (a' := ?_) ?_ ?_
                    rotate_left
                    · simp only [putAll, Act.put, List.setIfInBounds_toArray, List.set_cons_zero, List.set_cons_succ]
                      rfl
                    refine one_ (i := 6) (N := some 40) #[true, true, true, true, true, true, true, false, false, false] rfl rfl (one_of HT_.out (by kernel_rfl)) (by decide) (fun K hK => ?_)
                    refine Kd.R_lit_step k34 _ 34 ?hg (N := 40) ?hd (xs := ([(⟨a2_0, a2_1, a2_2, a2_3⟩ : S34)] : List (S34))) (inner := [.int .i64 a2_0, .int .i64 a2_1, .int .u64 a2_2, .string a2_3]) (ok := fun _ => True) (okp := fun _ => True) ?hr ?hp (fun _ hk => hk) trivial (Below.refl _ _) (Nat.le_refl _) (by simp) ?_; (case hd => rfl); (case hg => rfl); (case hr => first | (go_simp; done) | (go_simp; rfl)); (case hp => exact (Reps.c4 (show Kd.M k34 _ _ _ (⟨a2_0, a2_1, a2_2, a2_3⟩ : S34) [.int .i64 a2_0, .int .i64 a2_1, .int .u64 a2_2, .string a2_3] from (k34_mkM _ _ _ (⟨a2_0, a2_1, a2_2, a2_3⟩ : S34) )) (Reps.none _ _)))
                    intro v365 w55 ho56 hb hg_ hnew_
                    clear hg_ hnew_
                    (first | rw [← Ny364.out] at ho56 | (simp only [Int.reduceToNat] at ho56; rw [← Ny364.out] at ho56))
                    have n0_ := Aside0.mk (Kd.R_elder' (by (with_reducible repeat (first | apply Kd.R_alloc | apply Kd.R_drewN | apply Kd.R_drew)); exact HO_7.out) (Kd.R_base ho56) hb)
                    have n1_ := Aside0.mk (Kd.R_elder' (by (with_reducible repeat (first | apply Kd.R_alloc | apply Kd.R_drewN | apply Kd.R_drew)); exact HO_8.out) (Kd.R_base ho56) hb)
                    have n2_ := Aside0.mk (Kd.R_elder' (by (with_reducible repeat (first | apply Kd.R_alloc | apply Kd.R_drewN | apply Kd.R_drew)); exact HO363.out) (Kd.R_base ho56) hb)
                    have n3_ := Aside0.mk (Kd.R_lower (Kd.R_newB (Kd.R_newB (Kd.R_new' (Kd.R_new' (Kd.R_new' ho56 (Kd.R_lt (by (with_reducible repeat (first | apply Kd.R_alloc | apply Kd.R_drewN | apply Kd.R_drew)); exact HO_7.out))) (Kd.R_lt (by (with_reducible repeat (first | apply Kd.R_alloc | apply Kd.R_drewN | apply Kd.R_drew)); exact HO_8.out))) (Kd.R_lt (by (with_reducible repeat (first | apply Kd.R_alloc | apply Kd.R_drewN | apply Kd.R_drew)); exact HO363.out))) (g := gb330) (o := .cells #[.int .i64 a1_0, .int .i64 a1_1, .int .u64 a1_2, .string a1_3] 34 (0, 0)) (by (with_reducible repeat (first | refine blk_drewN ?_ _ | refine blk_drew ?_ | refine blk_alloc ?_ _)); exact BK330.out)) (g := gb331) (o := .cells #[.int .i64 a2_0, .int .i64 a2_1, .int .u64 a2_2, .string a2_3] 34 (0, 0)) (by (with_reducible repeat (first | refine blk_drewN ?_ _ | refine blk_drew ?_ | refine blk_alloc ?_ _)); exact BK331.out)) (below_size (by repeat (first | (with_reducible first | exact HB.out | apply below_alloc | apply pw_below_drewN | apply below_drew1 | refine below_set ?_ GE330.out | refine below_set ?_ GE331.out) | exact HB.out))))
                    have n4_ := Aside0.mk (blk_below (g := gb330) (o := .cells #[.int .i64 a1_0, .int .i64 a1_1, .int .u64 a1_2, .string a1_3] 34 (0, 0)) (by (with_reducible repeat (first | refine blk_drewN ?_ _ | refine blk_drew ?_ | refine blk_alloc ?_ _)); exact BK330.out) hb)
                    have n5_ := Aside0.mk (blk_below (g := gb331) (o := .cells #[.int .i64 a2_0, .int .i64 a2_1, .int .u64 a2_2, .string a2_3] 34 (0, 0)) (by (with_reducible repeat (first | refine blk_drewN ?_ _ | refine blk_drew ?_ | refine blk_alloc ?_ _)); exact BK331.out) hb)
                    have n6_ := Aside0.mk (below_step (by repeat (first | (with_reducible first | exact HB.out | apply below_alloc | apply pw_below_drewN | apply below_drew1 | refine below_set ?_ GE330.out | refine below_set ?_ GE331.out) | exact HB.out)) hb)
                    clear HO_7
                    clear HO_8
                    clear HO363
                    clear BK330
                    clear BK331
                    clear HB
                    have HO_7 := n0_
                    have HO_8 := n1_
                    have HO363 := n2_
                    have HO366 := n3_
                    have BK330 := n4_
                    have BK331 := n5_
                    have HB := n6_
                    clear n0_ n1_ n2_ n3_ n4_ n5_ n6_
                    clear hb ho56
                    refine hK.out _ _ ⟨(blk_cell BK330.out 0).trans rfl, (blk_cell BK330.out 1).trans rfl, (blk_cell BK330.out 2).trans rfl, (blk_cell BK330.out 3).trans rfl, (blk_cell BK331.out 0).trans rfl, (blk_cell BK331.out 1).trans rfl, (blk_cell BK331.out 2).trans rfl, (blk_cell BK331.out 3).trans rfl⟩ (fun hHeld => ?_)
                    clear hK K
                    refine norm_ (a' := ?_) ?_ ?_
                    rotate_left
                    · show Act.put _ (some 40) _ = _
                      simp only [Act.put, List.setIfInBounds_toArray, List.set_cons_zero, List.set_cons_succ, i64_w, i32_w]
                      rfl
                    exact norm_ (by first | (simp only [putAll, Act.put, List.setIfInBounds_toArray, List.set_cons_zero, List.set_cons_succ]; done) | (simp only [putAll, Act.put, List.setIfInBounds_toArray, List.set_cons_zero, List.set_cons_succ]; rfl)) (hJ2_4_6 (v362, v365) _ ⟨hHeld, (by (with_reducible repeat (first | apply Kd.R_alloc | apply Kd.R_drewN | apply Kd.R_drew)); exact Kd.R_mono HO363.out (fun _ hk => ⟨hk.2, ⟨hk.1.1, ⟨hk.1.2.1, ⟨hk.1.2.2.1, hk.1.2.2.2⟩⟩⟩⟩)), (by (with_reducible repeat (first | apply Kd.R_alloc | apply Kd.R_drewN | apply Kd.R_drew)); exact Kd.R_mono HO366.out (fun _ hk => ⟨hk.1.1.2, ⟨hk.1.1.1.1.2, ⟨hk.1.1.1.2, ⟨hk.1.2, hk.2⟩⟩⟩⟩)), (by (with_reducible repeat (first | apply Kd.R_alloc | apply Kd.R_drewN | apply Kd.R_drew)); exact Kd.R_mono HO_7.out (fun _ hk => ⟨hk.1.1, ⟨hk.2, ⟨hk.1.2.1, ⟨hk.1.2.2.1, hk.1.2.2.2⟩⟩⟩⟩)), (by (with_reducible repeat (first | apply Kd.R_alloc | apply Kd.R_drewN | apply Kd.R_drew)); exact Kd.R_mono HO_8.out (fun _ hk => ⟨hk.1.1, ⟨hk.2, ⟨hk.1.2.1, ⟨hk.1.2.2.1, hk.1.2.2.2⟩⟩⟩⟩)), (by (with_reducible repeat (first | refine blk_drewN ?_ _ | refine blk_drew ?_ | refine blk_alloc ?_ _)); exact BK330.out), (by (with_reducible repeat (first | refine blk_drewN ?_ _ | refine blk_drew ?_ | refine blk_alloc ?_ _)); exact BK331.out), (by repeat (first | (with_reducible first | exact HB.out | apply below_alloc | apply pw_below_drewN | apply below_drew1 | refine below_set ?_ GE330.out | refine below_set ?_ GE331.out) | exact HB.out))⟩)
                rintro ⟨v362, v365⟩ w56 ⟨hS_, h0_, h1_, h2_, h3_, h4_, h5_, h6_⟩
                have n0_ : Aside0 (Kd.R k34 34 w56 w.heap.size (fun k_ => some k_ ≠ (v365 : Value).ownBlock ∧ some k_ ≠ (.slice Ao48 y341.length co48 : Value).ownBlock ∧ some k_ ≠ (.slice Ao49 y353.length co49 : Value).ownBlock ∧ k_ ≠ gb330 ∧ k_ ≠ gb331) v362 y361) := ⟨h0_⟩
                have n1_ : Aside0 (Kd.R k34 34 w56 w.heap.size (fun k_ => some k_ ≠ (v362 : Value).ownBlock ∧ some k_ ≠ (.slice Ao48 y341.length co48 : Value).ownBlock ∧ some k_ ≠ (.slice Ao49 y353.length co49 : Value).ownBlock ∧ k_ ≠ gb330 ∧ k_ ≠ gb331) v365 y364) := ⟨h1_⟩
                have n2_ : Aside0 (Kd.R k34 34 w56 w.heap.size (fun k_ => some k_ ≠ (v362 : Value).ownBlock ∧ some k_ ≠ (v365 : Value).ownBlock ∧ some k_ ≠ (.slice Ao49 y353.length co49 : Value).ownBlock ∧ k_ ≠ gb330 ∧ k_ ≠ gb331) (.slice Ao48 y341.length co48) y341) := ⟨h2_⟩
                have n3_ : Aside0 (Kd.R k34 34 w56 w.heap.size (fun k_ => some k_ ≠ (v362 : Value).ownBlock ∧ some k_ ≠ (v365 : Value).ownBlock ∧ some k_ ≠ (.slice Ao48 y341.length co48 : Value).ownBlock ∧ k_ ≠ gb330 ∧ k_ ≠ gb331) (.slice Ao49 y353.length co49) y353) := ⟨h3_⟩
                have n4_ : Aside0 (w56.heap[gb330]? = some (.cells #[.int .i64 a1_0, .int .i64 a1_1, .int .u64 a1_2, .string a1_3] 34 (0, 0))) := ⟨h4_⟩
                have n5_ : Aside0 (w56.heap[gb331]? = some (.cells #[.int .i64 a2_0, .int .i64 a2_1, .int .u64 a2_2, .string a2_3] 34 (0, 0))) := ⟨h5_⟩
                have n6_ : Aside0 (Below w.heap.size w w56) := ⟨h6_⟩
                clear HO_7
                clear HO_8
                clear BK330
                clear BK331
                clear HB
                clear h0_ h1_ h2_ h3_ h4_ h5_ h6_
                have HO363 := n0_
                have HO366 := n1_
                have HO_7 := n2_
                have HO_8 := n3_
                have BK330 := n4_
                have BK331 := n5_
                have HB := n6_
                clear n0_ n1_ n2_ n3_ n4_ n5_ n6_
                have hHeld : w56.cell? ⟨gb330, 0, none⟩ = some (.int .i64 a1_0) ∧ w56.cell? ⟨gb330, 1, none⟩ = some (.int .i64 a1_1) ∧ w56.cell? ⟨gb330, 2, none⟩ = some (.int .u64 a1_2) ∧ w56.cell? ⟨gb330, 3, none⟩ = some (.string a1_3) ∧ w56.cell? ⟨gb331, 0, none⟩ = some (.int .i64 a2_0) ∧ w56.cell? ⟨gb331, 1, none⟩ = some (.int .i64 a2_1) ∧ w56.cell? ⟨gb331, 2, none⟩ = some (.int .u64 a2_2) ∧ w56.cell? ⟨gb331, 3, none⟩ = some (.string a2_3) := hS_
                obtain ⟨Ao57, co57, eo57⟩ := Kd.R_slice HO363.out
                (first | subst eo57 | (injection eo57 with f1_ f2_ f3_; have f4_ := f1_.symm; have f5_ := f3_.symm; clear f1_ f2_ f3_; subst f4_; subst f5_))
                obtain ⟨Ao58, co58, eo58⟩ := Kd.R_slice HO366.out
                (first | subst eo58 | (injection eo58 with f1_ f2_ f3_; have f4_ := f1_.symm; have f5_ := f3_.symm; clear f1_ f2_ f3_; subst f4_; subst f5_))
                refine norm_ (a' := ?_) ?_ ?_
                rotate_left
                · simp only [putAll, Act.put, List.setIfInBounds_toArray, List.set_cons_zero, List.set_cons_succ]
                  rfl
                refine one_ (i := 7) (N := some 41) #[true, true, true, true, true, true, true, true, false, false] rfl rfl (one_of HT_.out (by kernel_rfl)) (by decide) (fun K hK => ?_)
                refine goes_ Tryd.func21 (by kernel_rfl) rfl #[.slice Ao57 y361.length co57, .slice Ao58 y364.length co58] (by rfl) rfl rfl (by (try simp only [List.map_toArray, List.map_cons, List.map_nil]); first | done | rfl | (simp only [List.length_drop, List.length_take]; rfl)) ?_
                with_reducible refine (keys_Cmp.calls kj7 _ _ y361 _ _ y364 t367 _ ?side1 ?side2 ?side3 ?side4 A47.out).mono ?_
                (case side1 => repeat (first | exact (Kd.R_reads' HO363.out).2.2 | (with_reducible refine Kd.C_alloc ?_ _) | (with_reducible refine Kd.C_drewN ?_ _) | (with_reducible refine Kd.C_drew ?_)))
                (case side2 => exact (Kd.R_reads' HO363.out).2.1)
                (case side3 => repeat (first | exact (Kd.R_reads' HO366.out).2.2 | (with_reducible refine Kd.C_alloc ?_ _) | (with_reducible refine Kd.C_drewN ?_ _) | (with_reducible refine Kd.C_drew ?_)))
                (case side4 => exact (Kd.R_reads' HO366.out).2.1)
                rintro e w59 ⟨rfl, hb⟩
                refine ⟨_, rfl, ?_⟩
                have n0_ := Aside0.mk (Kd.R_below (by (with_reducible repeat (first | apply Kd.R_alloc | apply Kd.R_drewN | apply Kd.R_drew)); exact HO_7.out) hb)
                have n1_ := Aside0.mk (Kd.R_below (by (with_reducible repeat (first | apply Kd.R_alloc | apply Kd.R_drewN | apply Kd.R_drew)); exact HO_8.out) hb)
                have n2_ := Aside0.mk (Kd.R_below (by (with_reducible repeat (first | apply Kd.R_alloc | apply Kd.R_drewN | apply Kd.R_drew)); exact HO363.out) hb)
                have n3_ := Aside0.mk (Kd.R_below (by (with_reducible repeat (first | apply Kd.R_alloc | apply Kd.R_drewN | apply Kd.R_drew)); exact HO366.out) hb)
                have n4_ := Aside0.mk (blk_below (g := gb330) (o := .cells #[.int .i64 a1_0, .int .i64 a1_1, .int .u64 a1_2, .string a1_3] 34 (0, 0)) (by (with_reducible repeat (first | refine blk_drewN ?_ _ | refine blk_drew ?_ | refine blk_alloc ?_ _)); exact BK330.out) hb)
                have n5_ := Aside0.mk (blk_below (g := gb331) (o := .cells #[.int .i64 a2_0, .int .i64 a2_1, .int .u64 a2_2, .string a2_3] 34 (0, 0)) (by (with_reducible repeat (first | refine blk_drewN ?_ _ | refine blk_drew ?_ | refine blk_alloc ?_ _)); exact BK331.out) hb)
                have n6_ := Aside0.mk (below_step (by repeat (first | (with_reducible first | exact HB.out | apply below_alloc | apply pw_below_drewN | apply below_drew1 | refine below_set ?_ GE330.out | refine below_set ?_ GE331.out) | exact HB.out)) hb)
                clear HO_7
                clear HO_8
                clear HO363
                clear HO366
                clear BK330
                clear BK331
                clear HB
                have HO_7 := n0_
                have HO_8 := n1_
                have HO363 := n2_
                have HO366 := n3_
                have BK330 := n4_
                have BK331 := n5_
                have HB := n6_
                clear n0_ n1_ n2_ n3_ n4_ n5_ n6_
                (try clear hb)
                (try clear hb2)
                (try clear hk)
                (try clear hi)
                refine hK.out _ _ ⟨(blk_cell BK330.out 0).trans rfl, (blk_cell BK330.out 1).trans rfl, (blk_cell BK330.out 2).trans rfl, (blk_cell BK330.out 3).trans rfl, (blk_cell BK331.out 0).trans rfl, (blk_cell BK331.out 1).trans rfl, (blk_cell BK331.out 2).trans rfl, (blk_cell BK331.out 3).trans rfl⟩ (fun hHeld => ?_)
                clear hK K
                refine norm_ (a' := ?_) ?_ ?_
                rotate_left
                · show Act.put _ (some 41) _ = _
                  simp only [Act.put, List.setIfInBounds_toArray, List.set_cons_zero, List.set_cons_succ, i64_w, i32_w]
                  rfl
                refine pure_ (i := 8) (N := some 42) (v := ?_) (a' := ?_) #[true, true, true, true, true, true, true, true, true, false] rfl rfl (any_of HT_.out (by kernel_rfl)) (fun _ _ _ h => h) (Or.inl ⟨by rfl, ?_⟩) ?_ ?_
                rotate_left
                · intro w'
                  go_simp
                  with_reducible rfl
                rotate_left
                · simp only [Act.put, List.setIfInBounds_toArray, List.set_cons_zero, List.set_cons_succ, i64_w, i32_w]
                  rfl
                refine pure_ (i := 9) (N := some 6) (v := ?_) (a' := ?_) #[true, true, true, true, true, true, true, true, true, true] rfl rfl (any_of HT_.out (by kernel_rfl)) (fun _ _ _ h => h) (Or.inl ⟨by rfl, ?_⟩) ?_ ?_
                rotate_left
                · intro w'
                  go_simp
                  with_reducible rfl
                rotate_left
                · simp only [Act.put, List.setIfInBounds_toArray, List.set_cons_zero, List.set_cons_succ, i64_w, i32_w]
                  rfl
                refine done_ (done_of HT_.out (by kernel_rfl)) ?_
                try go_wp2
                go_ret
                exact ⟨by first | rfl | (simp [errW_none, errW_some] <;> rfl) | (simp [*, errW_none, errW_some] <;> rfl), by repeat (first | (with_reducible first | exact HB.out | apply below_alloc | apply pw_below_drewN | apply below_drew1 | refine below_set ?_ GE330.out | refine below_set ?_ GE331.out) | exact HB.out)⟩
        · rw [if_neg c7] at H
          exact absurd H (by simp)
      · rw [if_neg c6] at H
        exact absurd H (by simp)
    · rw [if_neg c5] at H
      exact absurd H (by simp)
  · rw [if_neg c4] at H
    exact absurd H (by simp)

end Go.Proofs.YtpimfioeeipnhaaDoor.K
