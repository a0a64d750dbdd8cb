/-
  fixed: it is true. No condition but the library's variables as laid.
-/
import Derived.Test.YtbmfmnkfdfdjbaaGreatDoorT0
import Derived.Test.YtbmfmnkfdfdjbaaGreatDoorT2
import Derived.Test.YtbmfmnkfdfdjbaaGreatDoorLF
namespace Go.Proofs.YtbmfmnkfdfdjbaaGreatDoor.D
open Go.RowKit Go.Shelf
set_option linter.unusedVariables false
set_option linter.unusedSimpArgs false

def d1 : List UInt8 := [123, 97, 40, 98, 58, 45, 49, 46, 53, 101, 51, 44, 99, 58, 34, 92, 117, 48, 48, 52, 49, 34, 41, 125, 35, 120]
def d2 : List UInt8 := [32, 32, 34, 92, 120, 34]
def d3 : List UInt8 := [48, 49, 50, 51]
def b1 : List UInt8 := [32, 32, 97, 10, 32, 32, 32, 32, 98, 10, 32, 32, 99, 10, 32, 32]
def b2 : List UInt8 := [32, 32, 97, 10, 32, 32, 98, 10, 99]
def q1 : List UInt8 := [97, 34, 10]
def q2 : List UInt8 := [34, 97, 92, 34, 92, 117, 48, 48, 48, 97, 34]
def l1 : List Tok := [⟨0, [123], 0, 1⟩, ⟨1, [97], 1, 2⟩, ⟨0, [40], 2, 3⟩, ⟨1, [98], 3, 4⟩, ⟨0, [58], 4, 5⟩, ⟨3, [45, 49, 46, 53, 101, 51], 5, 11⟩, ⟨1, [99], 12, 13⟩, ⟨0, [58], 13, 14⟩, ⟨4, [65], 14, 22⟩, ⟨0, [41], 22, 23⟩, ⟨0, [125], 23, 24⟩]
theorem lex_d1 : lexP d1 = .ok l1 := by kernel_rfl
theorem lex_d2 : lexP d2 = .error (2, 52) := by kernel_rfl
theorem lex_d3 : lexP d3 = .error (0, 51) := by kernel_rfl
theorem lex_d4 : lexP [] = .ok [] := by kernel_rfl
theorem blk_b1 : blockP b1 = b2 := by kernel_rfl
theorem quo_q1 : quoteB q1 = q2 := by kernel_rfl

theorem fixed_facts : blockP b1 = b2 := blk_b1
theorem tks_ok {w w' : World} {s : List UInt8} {x : Ending} {L : List Tok} (h : TksPost w s x w') (hL : lexP s = .ok L) : ∃ v, x = .returned (.tuple #[v, .int .i64 0, .int .i64 0]) ∧ TV w' v L ∧ Fr (fun _ => False) w w' := by
  obtain ⟨hf, h1, _⟩ := h
  obtain ⟨v, e, ht⟩ := h1 L hL
  exact ⟨v, e, ht.tv, hf⟩
theorem tks_err {w w' : World} {s : List UInt8} {x : Ending} {j : Nat} {c : Int} (h : TksPost w s x w') (hL : lexP s = .error (j, c)) : x = .returned (.tuple #[.slice none 0 0, .int .i64 (j : Nat), .int .i64 c]) ∧ Fr (fun _ => False) w w' := ⟨h.2.2 j c hL, h.1⟩

set_option maxHeartbeats 4000000 in
set_option maxRecDepth 100000 in
theorem fixed_c (w : World) (hV : Vars w) (h2 : 2 < w.heap.size) : Calls Tryz.prog 4 #[] w fun e w' => e = .returned (.bool true) ∧ Fr (fun _ => False) w w' := by
  have HV := hid hV
  have H2 := hid h2
  have HT := hid (fun (W : World) (hf : Fr (fun _ => False) w W) (s : List UInt8) => tokens_c W s (hV.stay hf) (Nat.lt_of_lt_of_le h2 hf.size))
  have HT1 := hid (show Calls Tryz.prog 9 #[.string { data := #[123, 97, 40, 98, 58, 45, 49, 46, 53, 101, 51, 44, 99, 58, 34, 92, 117, 48, 48, 52, 49, 34, 41, 125, 35, 120] }] w (TksPost w d1) from HT.out w (Fr.refl _ w) d1)
  clear hV h2
  go_enter Tryz.func4, Tryz.ntmps4
  go_wp2_with fail
  refine HT1.out.mono ?_
  intro e w2 hp
  obtain ⟨v1, rfl, hv1, hf1⟩ := tks_ok hp lex_d1
  obtain ⟨A1, c1, rfl, hc1, hA1⟩ := hv1
  obtain ⟨g, o, rfl, hg⟩ := hA1.resolve_left (by intro e; cases e)
  have t5 := hg 5 _ rfl
  have t8 := hg 8 _ rfl
  have hl1 : l1.length = 11 := rfl
  rw [hl1] at hc1 ⊢
  have HC1 := hid hc1
  have HG := hid (And.intro t5 t8)
  have HF1 := hid hf1
  have HT2 := hid (show Calls Tryz.prog 9 #[.string { data := #[32, 32, 34, 92, 120, 34] }] w2 (TksPost w2 d2) from HT.out w2 hf1 d2)
  clear hp hg t5 t8 hA1 hf1 hc1 hl1
  go_wp2_with fail
  refine HT2.out.mono ?_
  intro e w3 hp
  obtain ⟨rfl, hf⟩ := tks_err hp lex_d2
  have HF2 := hid (HF1.out.trans hf (fun _ _ f => f))
  have HF12 := hid hf
  have HT3 := hid (show Calls Tryz.prog 9 #[.string { data := #[48, 49, 50, 51] }] w3 (TksPost w3 d3) from HT.out w3 HF2.out d3)
  clear hp hf HT2 HT1
  go_wp2_with fail
  refine HT3.out.mono ?_
  intro e w4 hp
  obtain ⟨rfl, hf⟩ := tks_err hp lex_d3
  have HF3 := hid (HF2.out.trans hf (fun _ _ f => f))
  have HF13 := hid (HF12.out.trans hf (fun _ _ f => f))
  have HT4 := hid (show Calls Tryz.prog 9 #[.string { data := #[] }] w4 (TksPost w4 []) from HT.out w4 HF3.out [])
  clear hp hf HT3
  go_wp2_with fail
  refine HT4.out.mono ?_
  intro e w5 hp
  obtain ⟨v4, rfl, hv4, hf⟩ := tks_ok hp lex_d4
  have HF4 := hid (HF3.out.trans hf (fun _ _ f => f))
  have HF14 := hid (HF13.out.trans hf (fun _ _ f => f))
  obtain ⟨A4, c4, rfl, hc4, -⟩ := hv4
  obtain ⟨⟨x0, x1, -, -⟩, ⟨y0, y1, -, -⟩⟩ := And.intro (HG.out.1.stay HF14.out) (HG.out.2.stay HF14.out)
  have hn4 : (List.length ([] : List Tok)) = 0 := rfl
  rw [hn4]
  clear hp hf hc4 hn4 HT4
  have HBK := hid (show Calls Tryz.prog 5 #[.string { data := #[32, 32, 97, 10, 32, 32, 32, 32, 98, 10, 32, 32, 99, 10, 32, 32] }] w5 fun e w' => e = .returned (.string { data := #[32, 32, 97, 10, 32, 32, 98, 10, 99] }) ∧ Fr (fun _ => False) w5 w' from by
    have := block_text_c w5 b1 (HV.out.stay HF4.out) (by decide) (fun l hl => Nat.le_trans (lines_le hl) (by decide)) (Nat.le_trans (linesL_le b1) (by decide)) (by rw [blk_b1]; decide)
    rw [blk_b1] at this
    exact this)
  go_wp2_with fail
  refine HBK.out.mono ?_
  rintro e w6 ⟨rfl, hf6⟩
  have HF6 := hid (HF4.out.trans hf6 (fun _ _ f => f))
  have HQ := hid (show Calls Tryz.prog 7 #[.string { data := #[97, 34, 10] }] w6 fun e w' => e = .returned (.string { data := #[34, 97, 92, 34, 92, 117, 48, 48, 48, 97, 34] }) ∧ Fr (fun _ => False) w6 w' from by
    have := quote_c w6 q1 (by decide)
    rw [quo_q1] at this
    exact this)
  clear hf6 HBK x0 x1 y0 y1
  go_wp2_with fail
  refine HQ.out.mono ?_
  rintro e w7 ⟨rfl, hf7⟩
  have HF7 := hid (HF6.out.trans hf7 (fun _ _ f => f))
  clear hf7 HQ
  go_wp2_with fail
  go_ret
  exact ⟨rfl, HF7.out⟩

end Go.Proofs.YtbmfmnkfdfdjbaaGreatDoor.D
