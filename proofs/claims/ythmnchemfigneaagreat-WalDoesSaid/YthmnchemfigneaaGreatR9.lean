/-
  Both disks in one memory. No condition.
-/
import Derived.Test.YthmnchemfigneaaGreatR7
import Derived.Test.YthmnchemfigneaaGreatR8
namespace Go.Proofs.YthmnchemfigneaaGreat.D
open Go.RowKit Go.Maps Go.Shelf
set_option linter.unusedVariables false
set_option linter.unusedSimpArgs false

theorem other_cells {w : World} {b c : Nat} {x y : Array Value} {T U : TypeId} (h1 : w.heap[b]? = some (.cells x T)) (h2 : w.heap[c]? = some (.cells y U)) (hT : T ≠ U) : b ≠ c := by
  rintro rfl
  rw [h1] at h2
  injection h2 with h2
  injection h2 with _ e
  exact hT e

theorem rcells_apart {w : World} {m b1 b2 b : Nat} {s : St} {c : Array Value} {T : TypeId} (h : RA w m b1 b2 s) (hb : w.heap[b]? = some (.cells c T)) (hT : T ≠ 78) (hT2 : T ≠ 9) : ¬ (b = m ∨ b = b1 ∨ b = b2) := by
  obtain ⟨⟨c1, c2, kv, h1, _⟩, ⟨x, h3, _⟩, ⟨y, h4, _⟩, _⟩ := h
  rintro (e | e | e)
  · exact other_cells hb h1 hT e
  · exact other_cells hb h3 hT2 e
  · exact other_cells hb h4 hT2 e

/-- The document's disk stays while the program's turns. -/
theorem RC.beside {w w' : World} {g bm m b1 b2 : Nat} {s r : St} (h : RA w m b1 b2 r) (hd : At w g bm s) (hf : Fr (fun i => i = g ∨ i = bm) w w') : RA w' m b1 b2 r := by
  obtain ⟨⟨c1, c2, kv, h1, hi⟩, h3, h4, h5⟩ := h
  refine ⟨⟨c1, c2, kv, hf.at h1 (cells_apart hd h1 (by decide)), hi.beside hd hf⟩, ?_, ?_, h5⟩
  · obtain ⟨x, h3, hx⟩ := h3
    exact ⟨x, hf.at h3 (cells_apart hd h3 (by decide)), hx⟩
  · obtain ⟨x, h3, hx⟩ := h4
    exact ⟨x, hf.at h3 (cells_apart hd h3 (by decide)), hx⟩

/-- The program's disk stays while the document's turns. -/
theorem At.besideR {w w' : World} {g bm m b1 b2 : Nat} {s r : St} (hd : At w g bm s) (h : RA w m b1 b2 r) (hf : Fr (fun i => i = m ∨ i = b1 ∨ i = b2) w w') : At w' g bm s := by
  have hd' := hd
  obtain ⟨⟨kv, a1, _⟩, mm, D, ⟨es, clock, a2, _⟩, _⟩ := hd'
  refine hd.keep hf (rcells_apart h a1 (by decide) (by decide)) ?_ (fun b cur hb => rcells_apart h hb (by decide) (by decide))
  obtain ⟨⟨c1, c2, kv', h1, _⟩, ⟨x, h3, _⟩, ⟨y, h4, _⟩, _⟩ := h
  rintro (e | e | e)
  · subst e; rw [h1] at a2; cases a2
  · subst e; rw [h3] at a2; cases a2
  · subst e; rw [h4] at a2; cases a2

structure DJ (W w : World) (g bm m b1 b2 N : Nat) (S R : St) : Prop where
  at_ : At w g bm S
  ra : RA w m b1 b2 R
  ok : S.Ok
  rok : R.Ok
  n : S.n = N ∧ R.n = N
  fr : Fr (fun _ => False) W w
  low : W.heap.size ≤ g ∧ W.heap.size ≤ bm ∧ W.heap.size ≤ m ∧ W.heap.size ≤ b1 ∧ W.heap.size ≤ b2

theorem DJ.stay {W w w' : World} {g bm m b1 b2 N : Nat} {S R : St} (h : DJ W w g bm m b1 b2 N S R) (hf : Fr (fun _ => False) w w') : DJ W w' g bm m b1 b2 N S R :=
  ⟨h.at_.stay hf, RC.stay h.ra hf, h.ok, h.rok, h.n, h.fr.trans hf (fun _ _ f => f), h.low⟩
theorem DJ.d {W w w' : World} {g bm bm' m b1 b2 N : Nat} {S S' R : St} (h : DJ W w g bm m b1 b2 N S R) (hA : At w' g bm' S') (hb : bm' = bm ∨ w.heap.size ≤ bm') (hf : Fr (fun i => i = g ∨ i = bm) w w') (hok : S'.Ok) (hn : S'.n = S.n) : DJ W w' g bm' m b1 b2 N S' R := by
  have hs := h.fr.size
  have hl := h.low
  exact ⟨hA, RC.beside h.ra h.at_ hf, hok, h.rok, ⟨hn.trans h.n.1, h.n.2⟩, h.fr.trans hf (fun i hi e => by rcases e with e | e <;> omega), ⟨hl.1, by rcases hb with hb | hb <;> omega, hl.2.2⟩⟩
theorem DJ.r {W w w' : World} {g bm m b1 b2 N : Nat} {S R R' : St} (h : DJ W w g bm m b1 b2 N S R) (hT : RTurn w m b1 b2 R' w') (hok : R'.Ok) (hn : R'.n = R.n) : ∃ b1' b2', DJ W w' g bm m b1' b2' N S R' := by
  obtain ⟨⟨b1', b2', hR, l1, l2⟩, hf⟩ := hT
  have hs := h.fr.size
  have hl := h.low
  exact ⟨b1', b2', h.at_.besideR h.ra hf, hR, h.ok, hok, ⟨h.n.1, hn.trans h.n.2⟩, h.fr.trans hf (fun i hi e => by rcases e with e | e | e <;> omega), ⟨hl.1, hl.2.1, hl.2.2.1, by rcases l1 with l1 | l1 <;> omega, by rcases l2 with l2 | l2 <;> omega⟩⟩

/-- A third disk turns. -/
theorem DJ.other {W w w' : World} {g bm m b1 b2 N g0 bm0 : Nat} {S R S0 : St} (h : DJ W w g bm m b1 b2 N S R) (h0 : At w g0 bm0 S0) (hf : Fr (fun i => i = g0 ∨ i = bm0) w w') (n1 : g ≠ g0) (n2 : bm ≠ bm0) (l0 : W.heap.size ≤ g0 ∧ W.heap.size ≤ bm0) : DJ W w' g bm m b1 b2 N S R :=
  ⟨h.at_.beside h0 hf n1 n2, RC.beside h.ra h0 hf, h.ok, h.rok, h.n, h.fr.trans hf (fun i hi e => by rcases e with e | e <;> omega), h.low⟩

theorem RAt.ra {w : World} {B g : Nat} {l : List UInt8} (hl : IsImage l) (h : RAt w B g { safe := chunks l (l.length / 64), written := List.replicate (l.length / 64) [], armed := 0, kept := [], dead := false }) :
    ∃ b1 b2, RA w g b1 b2 (news l) ∧ B ≤ g ∧ B ≤ b1 ∧ B ≤ b2 := by
  obtain ⟨h0, sv, wv, kv, h1, h2, h3, h4, h5⟩ := h
  obtain ⟨l1, l2, l3⟩ := hl
  obtain ⟨n, hn⟩ : ∃ n, n = l.length / 64 := ⟨_, rfl⟩
  have hnn : (news l).n = n := hn.symm
  rw [← hn] at h2 h3
  simp only [show (chunks l n).length = n by simp [chunks], List.length_replicate] at h2 h3
  obtain ⟨b1, c1, rfl⟩ := Joins.ownsRow_form h2 (by omega)
  obtain ⟨b2, c2, rfl⟩ := Joins.ownsRow_form h3 (by omega)
  refine ⟨b1, b2, ⟨⟨c1, c2, kv, by rw [hnn]; exact h1, h5⟩, ?_, ?_, fun e => h4 b1 rfl (by rw [e]; rfl)⟩, h0, (h2.lt b1 rfl).1, (h3.lt b2 rfl).1⟩
  · rw [hnn]
    refine RowP.of_own h2 (fun i hi => ?_)
    simp [strs, chunks, hi, chunk, piece, news]
  · rw [hnn]
    refine RowP.of_own h3 (fun i hi => ?_)
    simp [strs, hi, uns, news]

/-- A row of numbers that a call owns. -/
theorem own_ints {w : World} {B n cap : Nat} {a : Option Addr} {L : List Nat} (hl : n = L.length) (hn : n ≤ 4096) (h : w.ownsRow B 3 1 (.slice a n cap) n (ivals L)) : IntsV w (.slice a n cap) (L.map (fun (i : Nat) => (i : Int))) := by
  have hm : (L.map (fun (i : Nat) => (i : Int))).length = n := by simp [hl]
  refine ⟨a, cap, by rw [hm], by rw [hm]; omega, ?_⟩
  rcases h.2 with ⟨h0, h1⟩ | ⟨b, c, cur, h0, _⟩
  · left
    have : L = [] := List.eq_nil_of_length_eq_zero (by omega)
    rw [this]; rfl
  · right
    injection h0 with h0 _ _
    subst h0
    refine ⟨b, 0, rfl, fun j hj => ?_⟩
    rw [hm] at hj
    have := h.cells (g := b) rfl j (.int .i64 (L.getD j 0)) (by simp [ivals, List.getD_eq_getElem?_getD, List.getElem?_eq_getElem (show j < L.length by omega)])
    have e1 : (⟨b, 0, none⟩ : Addr).add j = ⟨b, 0 + j, none⟩ := by unfold Addr.add; split <;> simp_all
    rw [e1] at this
    rw [this]
    simp [List.getD_eq_getElem?_getD, List.getElem?_eq_getElem (show j < L.length by omega)]

theorem runsafe_v (w : World) (m b1 b2 : Nat) (S : St) (h : RA w m b1 b2 S) (hs : S.Ok) :
    Calls Tryz.prog 72 #[.pointer (some ⟨m, 0, none⟩)] w fun e w' => ∃ v, e = .returned v ∧ IntsV w' v (S.unl.map (fun (i : Nat) => (i : Int))) ∧ Fr (fun _ => False) w w' := by
  refine (runsafe_c w m b1 b2 S.n S.armed _ _ S.kept S.dead h hs.n2).mono ?_
  rintro e w' ⟨a, cap, rfl, hO, hB⟩
  have hle := ul_le (uns S) S.n
  rw [ul_unl hs] at hO hle ⊢
  exact ⟨_, rfl, own_ints rfl (by have := hs.n2; omega) hO, below_fr hB (Nat.le_refl _)⟩

end Go.Proofs.YthmnchemfigneaaGreat.D
