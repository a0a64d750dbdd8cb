/-
  A call of a pager's script; a script in memory; a world's numbers. No condition.
-/
import Derived.Test.YtjkhcfdflcndkaaG3
namespace Go.Proofs.Ytjkhcfdflcndkaa.D
open Go.RowKit Go.Maps Go.Shelf
set_option linter.unusedVariables false

structure OpV where
  kind : Int
  at_ : Int
  n : Int
  text : List UInt8
  pv : Value
  kv : Value
  pages : List Int
  kept : List Int
def OpV.val (o : OpV) : Array Value := #[.int .i64 o.kind, .int .i64 o.at_, .int .i64 o.n, .string (bs o.text), o.pv, o.kv]
instance : Inhabited OpV := ⟨⟨0, 0, 0, [], .slice none 0 0, .slice none 0 0, [], []⟩⟩
structure OpOk (w : World) (o : OpV) : Prop where
  a1 : -9223372036854775808 ≤ o.at_
  a2 : o.at_ ≤ 9223372036854775807
  n1 : -9223372036854775808 ≤ o.n
  n2 : o.n ≤ 9223372036854775807
  rl : o.text.length ≤ 9223372036854775807
  pg : IntsV w o.pv o.pages
  pb : ∀ k ∈ o.pages, -9223372036854775808 ≤ k ∧ k ≤ 9223372036854775807
  kp : IntsV w o.kv o.kept
theorem OpOk.stay {w w' : World} {o : OpV} (h : OpOk w o) (hf : Fr (fun _ => False) w w') : OpOk w' o := ⟨h.a1, h.a2, h.n1, h.n2, h.rl, h.pg.stay hf, h.pb, h.kp.stay hf⟩

/-- A slice of calls' records. -/
def ScriptAt (w : World) (A : Option Addr) (ops : List OpV) : Prop :=
  ops.length ≤ 9223372036854775807 ∧ (ops = [] ∨ ∃ b o, A = some ⟨b, o, none⟩ ∧ ∀ i p, ops[i]? = some p → OpOk w p ∧
    w.cell? ⟨b, o + i * 6, none⟩ = some (.int .i64 p.kind) ∧ w.cell? ⟨b, o + i * 6 + 1, none⟩ = some (.int .i64 p.at_) ∧ w.cell? ⟨b, o + i * 6 + 2, none⟩ = some (.int .i64 p.n) ∧ w.cell? ⟨b, o + i * 6 + 3, none⟩ = some (.string (bs p.text)) ∧ w.cell? ⟨b, o + i * 6 + 4, none⟩ = some p.pv ∧ w.cell? ⟨b, o + i * 6 + 5, none⟩ = some p.kv)

theorem ScriptAt.stay {w w' : World} {A : Option Addr} {ops : List OpV} (h : ScriptAt w A ops) (hf : Fr (fun _ => False) w w') : ScriptAt w' A ops := by
  obtain ⟨h0, h⟩ := h
  refine ⟨h0, ?_⟩
  rcases h with h | ⟨b, o, rfl, h⟩
  · exact Or.inl h
  · refine Or.inr ⟨b, o, rfl, fun i p hp => ?_⟩
    obtain ⟨a1, a3, a4, a5, a6, a7, a8⟩ := h i p hp
    exact ⟨a1.stay hf, cells_stay2 hf a3, cells_stay2 hf a4, cells_stay2 hf a5, cells_stay2 hf a6, cells_stay2 hf a7, cells_stay2 hf a8⟩

structure WV where
  im : List UInt8
  first : Int
  count : Int
  from_ : Int
structure WOk (W : WV) : Prop where
  im : W.im.length ≤ 9223372036854775807
  f : -9223372036854775808 ≤ W.first ∧ W.first ≤ 9223372036854775807
  c : -9223372036854775808 ≤ W.count ∧ W.count ≤ 9223372036854775807
  n : -9223372036854775808 ≤ W.from_ ∧ W.from_ ≤ 9223372036854775807

end Go.Proofs.Ytjkhcfdflcndkaa.D
