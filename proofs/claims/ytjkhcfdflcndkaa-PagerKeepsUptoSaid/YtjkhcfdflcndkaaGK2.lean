/-
  PagerKeeps: the plain law. A pager's calls and what is opened behind a power cut. Plain lists. No condition.
-/
import Derived.Test.YtjkhcfdflcndkaaGK1
namespace Go.Proofs.Ytjkhcfdflcndkaa.D
set_option linter.unusedVariables false
set_option linter.unusedSimpArgs false

/-- What a commit made count: a root, a From, pages, what they have. -/
structure Lst where
  root : Int
  fr : Int
  pages : List Int
  bytes : List (List UInt8)

/-- A page's bytes. -/
def pg (S : St) (i : Int) : List UInt8 := (List.range 8).flatMap (fun j => sec S (2 + 8 * i.toNat + j))
def liveOk (P : PSt) (S : St) (l : List Int) : Bool := l.all (fun k => decide ((P.read S k).2 = 0) && decide ((P.read S k).1.length = 512))
def liveL (P : PSt) (S : St) (l : List Int) : List (List UInt8) := l.map (fun k => (P.read S k).1)
def standsP (P : PSt) (S : St) (L : Lst) : Bool := liveOk P S L.pages && decide (P.root = L.root) && decide ((P.from_ : Int) = L.fr) && decide (liveL P S L.pages = L.bytes)

theorem flat_congr {α : Type} {f g : Nat → List α} : ∀ m, (∀ i, i < m → f i = g i) → (List.range m).flatMap f = (List.range m).flatMap g
  | 0, _ => rfl
  | m + 1, h => by
    rw [List.range_succ, List.flatMap_append, List.flatMap_append, flat_congr m (fun i hi => h i (by omega))]
    simp [h m (by omega)]
theorem flat_len' (f : Nat → List UInt8) (c : Nat) : ∀ m, (∀ i, i < m → (f i).length = c) → ((List.range m).flatMap f).length = c * m
  | 0, _ => by simp
  | m + 1, h => by
    have := flat_len' f c m (fun i hi => h i (by omega))
    have := h m (by omega)
    simp [List.range_succ, Nat.mul_succ]
    simp at *
    omega
theorem pg_congr {S S' : St} {i : Int} (h : ∀ j, j < 8 → sec S' (2 + 8 * i.toNat + j) = sec S (2 + 8 * i.toNat + j)) : pg S' i = pg S i := flat_congr 8 h
theorem pg_len {S : St} (hs : S.Ok) {n : Nat} (hn : S.n = 2 + 8 * n) {i : Int} (h0 : 0 ≤ i) (h1 : i < n) : (pg S i).length = 512 :=
  flat_len' _ 64 8 (fun j hj => sec_length hs (i := 2 + 8 * i.toNat + j) (by omega))
theorem sec_safe {S : St} {k : Nat} (h : S.un k = none) : sec S k = piece S.safe k := by unfold sec; rw [h]; rfl

theorem read_pg {S : St} (hs : S.Ok) (hd : S.dead = false) {n : Nat} (hn : S.n = 2 + 8 * n) {i : Int} (h0 : 0 ≤ i) (h1 : i < n) : S.read (((2 : Nat) : Int) + 8 * i) 8 = (pg S i, 0) := by
  unfold St.read
  rw [if_neg (by simp [hd]), if_neg (by omega)]
  have e1 : (((2 : Nat) : Int) + 8 * i).toNat = 2 + 8 * i.toNat := by omega
  have e2 : (8 : Int).toNat = 8 := rfl
  rw [e1, e2]
  rfl
theorem pread_pg {P : PSt} {S : St} (hs : S.Ok) (hd : S.dead = false) {n : Nat} (hn : S.n = 2 + 8 * n) (hf : P.first = 2) (hp : P.pages = n) (i : Int) : P.read S i = if P.is i then (pg S i, 0) else ([], 191) := by
  unfold PSt.read
  split
  · rename_i h
    have := is_true h
    rw [hf]
    exact read_pg hs hd hn this.1 (by omega)
  · rfl

def Vld (n : Nat) (l : List Int) : Prop := (∀ i ∈ l, 0 ≤ i ∧ i < (n : Int)) ∧ l.Nodup

/-- The head that counts. -/
structure Hds (S : St) (n g : Nat) (rt : Int) (fr : Nat) : Prop where
  g1 : 1 ≤ g
  g2 : g ≤ 1152921504606846976
  r1 : -1 ≤ rt
  r2 : rt < n
  f1 : 1 ≤ fr
  f2 : fr ≤ 1152921504606846976
  cu : S.un (g % 2) = none
  cur : piece S.safe (g % 2) = headB g (rt + 1).toNat fr
  ou : S.un (1 - g % 2) = none
  oth : (parseP n (1 - g % 2) (piece S.safe (1 - g % 2))).1 < g

structure Pgs (S : St) (n : Nat) (L : Lst) : Prop where
  v : Vld n L.pages
  by_ : L.bytes = L.pages.map (pg S)
  calm : ∀ i ∈ L.pages, ∀ j, j < 8 → S.un (2 + 8 * i.toNat + j) = none

structure Alive (n : Nat) (S : St) (P : PSt) (L : Lst) : Prop where
  ok : S.Ok
  sn : S.n = 2 + 8 * n
  sd : S.dead = false
  pok : P.Ok S.n
  pf : P.first = 2
  pp : P.pages = n
  pd : P.dead = false
  rt : P.root = L.root
  fr : (P.from_ : Int) = L.fr
  lv : ∀ i, P.live i = L.pages.contains i
  dj : ∀ i, P.live i = true → P.taken i = false
  hd : Hds S n P.gen P.root P.from_
  pg : Pgs S n L

def Here (S : St) (n : Nat) (L : Lst) (rt : Int) (fr : Nat) : Prop := rt = L.root ∧ (fr : Int) = L.fr ∧ Pgs S n L

structure Gone (n : Nat) (S : St) (last next : Lst) : Prop where
  ok : S.Ok
  sn : S.n = 2 + 8 * n
  dead : S.dead = true
  un : ∀ k, S.un k = none
  v : Vld n last.pages
  w : ∃ g rt fr, Hds S n g rt fr ∧ (Here S n last rt fr ∨ Here S n next rt fr)

theorem hds_pick {S : St} {n g fr : Nat} {rt : Int} (hn : n ≤ 4096) (h : Hds S n g rt fr) : pickP S n = (g, rt, fr) := by
  have hr := h.r1
  have hr2 := h.r2
  have e1 : parseP n (g % 2) (sec S (g % 2)) = (g, rt, fr) := by
    rw [sec_safe h.cu, h.cur, head_parse h.g1 h.g2 rfl (by omega) hn h.f1 h.f2]
    congr 2
    omega
  have e2 : (parseP n (1 - g % 2) (sec S (1 - g % 2))).1 < g := by rw [sec_safe h.ou]; exact h.oth
  unfold pickP
  have h2 : g % 2 = 0 ∨ g % 2 = 1 := by omega
  show (if (parseP n 0 (sec S 0)).1 < (parseP n 1 (sec S 1)).1 then parseP n 1 (sec S 1) else parseP n 0 (sec S 0)) = _
  rcases h2 with h2 | h2
  · rw [h2] at e1 e2
    rw [e1]
    have e2 : (parseP n 1 (sec S 1)).1 < g := e2
    rw [if_neg (by simp only; omega)]
  · rw [h2] at e1 e2
    rw [e1]
    have e2 : (parseP n 0 (sec S 0)).1 < g := e2
    rw [if_pos (by simp only; omega)]

theorem hds_open {S : St} {n g fr : Nat} {rt : Int} (hd : S.dead = false) (sn : S.n = 2 + 8 * n) (h1 : 1 ≤ n) (hn : n ≤ 4096) (h : Hds S n g rt fr) : openP S 2 n = (some (PSt.of 2 n (g, rt, fr)), 0) := by
  have hc : pchk S 2 n 1 = 0 := pchk_zero (by omega) (by omega) (by omega) (by omega) (by omega) (by omega) hd
  have hg := h.g1
  unfold openP
  rw [if_neg (by rw [hc]; decide), Int.toNat_natCast, hds_pick hn h, if_neg (by show ¬ g = 0; omega)]
  rfl

/-- Heads stay where sectors 0 and 1 stay. -/
theorem Hds.stay {S S' : St} {n g fr : Nat} {rt : Int} (h : Hds S n g rt fr) (hu : ∀ k, k < 2 → S'.un k = none) (hs : ∀ k, k < 2 → piece S'.safe k = piece S.safe k) : Hds S' n g rt fr :=
  ⟨h.g1, h.g2, h.r1, h.r2, h.f1, h.f2, hu _ (by omega), by rw [hs _ (by omega)]; exact h.cur, hu _ (by omega), by rw [hs _ (by omega)]; exact h.oth⟩
theorem Hds.un01 {S : St} {n g fr : Nat} {rt : Int} (h : Hds S n g rt fr) : ∀ k, k < 2 → S.un k = none := fun k hk => by
  have : k = g % 2 ∨ k = 1 - g % 2 := by omega
  rcases this with e | e <;> rw [e]
  · exact h.cu
  · exact h.ou

theorem Pgs.stay {S S' : St} {n : Nat} {L : Lst} (h : Pgs S n L) (hu : ∀ i ∈ L.pages, ∀ j, j < 8 → S'.un (2 + 8 * i.toNat + j) = none) (hs : ∀ i ∈ L.pages, ∀ j, j < 8 → piece S'.safe (2 + 8 * i.toNat + j) = piece S.safe (2 + 8 * i.toNat + j)) : Pgs S' n L := by
  refine ⟨h.v, ?_, hu⟩
  rw [h.by_]
  refine List.map_congr_left (fun i hi => (pg_congr (fun j hj => ?_)).symm)
  rw [sec_safe (hu i hi j hj), sec_safe (h.calm i hi j hj), hs i hi j hj]

/-- Sectors that are neither heads nor pages that count. -/
def Off (L : Lst) (A : Nat → Prop) : Prop := ∀ k, A k → 2 ≤ k ∧ ∀ i ∈ L.pages, ∀ j, j < 8 → k ≠ 2 + 8 * i.toNat + j

theorem alive_mod {n : Nat} {S S' : St} {P P' : PSt} {L : Lst} {A : Nat → Prop} (h : Alive n S P L) (m : Mod S S' A) (ho : Off L A) (hp : P'.Ok S.n) (e1 : P'.first = P.first) (e2 : P'.pages = P.pages) (e3 : P'.dead = P.dead) (e4 : P'.root = P.root) (e5 : P'.from_ = P.from_) (e6 : P'.gen = P.gen) (e7 : P'.live = P.live) (e8 : ∀ i, P'.taken i = true → P.live i = false) : Alive n S' P' L := by
  have hu : ∀ k, (∀ a, A a → a ≠ k) → S'.un k = S.un k := fun k hk => m.un k (fun a => hk k a rfl)
  refine ⟨m.ok, m.n.trans h.sn, m.dead, by rw [m.n]; exact hp, e1.trans h.pf, e2.trans h.pp, e3.trans h.pd, e4.trans h.rt, by rw [e5]; exact h.fr, fun i => by rw [e7]; exact h.lv i, fun i hi => ?_, ?_, ?_⟩
  · rw [Bool.eq_false_iff]
    intro ht
    rw [e7, e8 i ht] at hi
    cases hi
  · rw [e4, e5, e6]
    refine h.hd.stay (fun k hk => ?_) (fun k hk => by rw [m.safe])
    rw [hu k (fun a ha e => by have := (ho a ha).1; omega)]
    exact h.hd.un01 k hk
  · refine h.pg.stay (fun i hi j hj => ?_) (fun i hi j hj => by rw [m.safe])
    rw [hu _ (fun a ha e => (ho a ha).2 i hi j hj e)]
    exact h.pg.calm i hi j hj

theorem gone_cut {n : Nat} {S S' : St} {P : PSt} {L N : Lst} {A : Nat → Prop} (h : Alive n S P L) (c : Cut S S' A) (ho : Off L A) : Gone n S' L N := by
  have hs : ∀ k, (∀ a, A a → a ≠ k) → S.un k = none → piece S'.safe k = piece S.safe k := fun k hk hu => by
    rcases c.safe k (fun a => hk k a rfl) with e | e
    · exact e
    · rw [hu] at e; cases e
  refine ⟨c.ok, c.n.trans h.sn, c.dead, c.un, h.pg.v, P.gen, P.root, P.from_, ?_, Or.inl ⟨h.rt, h.fr, ?_⟩⟩
  · refine h.hd.stay (fun k _ => c.un k) (fun k hk => hs k (fun a ha e => by have := (ho a ha).1; omega) (h.hd.un01 k hk))
  · exact h.pg.stay (fun i hi j hj => c.un _) (fun i hi j hj => hs _ (fun a ha e => (ho a ha).2 i hi j hj e) (h.pg.calm i hi j hj))

theorem alive_alloc {n : Nat} {S : St} {P : PSt} {L : Lst} (h : Alive n S P L) : Alive n S P.alloc.1 L := by
  have hok := alloc_ok h.pok
  have m : Mod S S (fun _ => False) := ⟨h.ok, rfl, h.sd, rfl, fun k _ => rfl⟩
  unfold PSt.alloc at hok ⊢
  cases hk : P.pick P.pages 0 with
  | none => exact h
  | some i =>
    rw [hk] at hok
    refine alive_mod h m (fun k f => f.elim) hok rfl rfl rfl rfl rfl rfl rfl (fun j hj => ?_)
    have hj : (j == (i : Int) || P.taken j) = true := hj
    simp only [Bool.or_eq_true, beq_iff_eq] at hj
    rcases hj with e | e
    · have : ∀ d a, P.pick d a = some i → P.used i = false := by
        intro d
        induction d with
        | zero => intro a ha; cases ha
        | succ d ih =>
          intro a ha
          rw [PSt.pick] at ha
          split at ha
          · exact ih _ ha
          · rename_i hu
            cases ha
            simpa using hu
      have := this _ _ hk
      unfold PSt.used at this
      simp only [Bool.or_eq_false_iff] at this
      rw [e]
      exact this.1
    · rw [Bool.eq_false_iff]
      intro hl
      rw [h.dj j hl] at e
      cases e
theorem alive_drop {n : Nat} {S : St} {P : PSt} {L : Lst} (h : Alive n S P L) : Alive n S P.drop L := by
  have m : Mod S S (fun _ => False) := ⟨h.ok, rfl, h.sd, rfl, fun k _ => rfl⟩
  exact alive_mod h m (fun k f => f.elim) (drop_ok h.pok) rfl rfl rfl rfl rfl rfl rfl (fun j hj => by cases hj)

theorem alive_write {n : Nat} {S : St} {P : PSt} {L : Lst} (h : Alive n S P L) (k : Int) (l : List UInt8) : Alive n (P.write S k l).2.1 (P.write S k l).1 L ∨ Gone n (P.write S k l).2.1 L L := by
  unfold PSt.write
  rw [if_neg (by simp [h.pd])]
  split
  · exact Or.inl h
  rename_i hl
  split
  · exact Or.inl h
  rename_i ht
  have ht : P.taken k = true := by simpa using ht
  obtain ⟨k0, k1⟩ := h.pok.tk k ht
  obtain ⟨K, rfl⟩ : ∃ K : Nat, k = K := ⟨k.toNat, by omega⟩
  have hpp := h.pp
  have hsn := h.sn
  have hll : (l ++ List.replicate (512 - l.length) (0 : UInt8)).length = 512 := by simp; omega
  have ea : ((P.first : Int) + 8 * (K : Int)) = ((2 + 8 * K : Nat) : Int) := by rw [h.pf]; omega
  have hoff : Off L (fun a => 2 + 8 * K ≤ a ∧ a < 2 + 8 * K + (l ++ List.replicate (512 - l.length) (0 : UInt8)).length / 64) := by
    intro a ha
    rw [hll] at ha
    refine ⟨by omega, fun i hi j hj e => ?_⟩
    have hik : i.toNat = K := by omega
    have hi2 := h.pg.v.1 i hi
    have : i = (K : Int) := by omega
    subst this
    have hlv : P.live (K : Int) = true := by rw [h.lv]; exact List.contains_iff_mem.2 hi
    rw [h.dj _ hlv] at ht
    cases ht
  rw [ea]
  rcases write_mod h.ok h.sd (2 + 8 * K) (l ++ List.replicate (512 - l.length) 0) (by omega) (by omega) with ⟨e, m, _⟩ | ⟨e, c, _⟩
  · left
    rw [e, told_zero]
    refine alive_mod h m hoff h.pok rfl rfl rfl rfl rfl rfl rfl (fun i hi => ?_)
    rw [Bool.eq_false_iff]
    intro hl2
    rw [h.dj i hl2] at hi
    cases hi
  · right
    exact gone_cut h c hoff

theorem alive_arm {n : Nat} {S : St} {P : PSt} {L : Lst} (h : Alive n S P L) (a : Int) (ha : a ≤ 9223372036854775807) (ks : List Int) : Alive n (S.arm a ks).1 P L := by
  have ho := arm_ok h.ok ha ks
  have m : Mod S (S.arm a ks).1 (fun _ => False) := by
    unfold St.arm at ho ⊢
    rw [if_neg (by simp [h.sd])] at ho ⊢
    split
    · exact ⟨h.ok, rfl, h.sd, rfl, fun k _ => rfl⟩
    · rename_i hn
      rw [if_neg hn] at ho
      exact ⟨ho.1, ho.2, h.sd, rfl, fun k _ => rfl⟩
  refine alive_mod h m (fun k f => f.elim) h.pok rfl rfl rfl rfl rfl rfl rfl (fun i hi => ?_)
  rw [Bool.eq_false_iff]
  intro hl2
  rw [h.dj i hl2] at hi
  cases hi
theorem alive_crash {n : Nat} {S : St} {P : PSt} {L : Lst} (h : Alive n S P L) (ks : List Int) : Gone n (S.crash ks).1 L L := by
  unfold St.crash
  rw [if_neg (by simp [h.sd])]
  exact gone_cut h (dies_cut h.ok ks) (fun k f => f.elim)

/-- A pager that lives tells what counts. -/
theorem alive_stands {n : Nat} {S : St} {P : PSt} {L : Lst} (h : Alive n S P L) : standsP P S L = true := by
  have hr : ∀ i ∈ L.pages, P.read S i = (pg S i, 0) := fun i hi => by
    have hv := h.pg.v.1 i hi
    rw [pread_pg h.ok h.sd h.sn h.pf h.pp, if_pos]
    unfold PSt.is
    have := h.pp
    simp
    omega
  unfold standsP
  simp only [Bool.and_eq_true, decide_eq_true_eq]
  refine ⟨⟨⟨?_, h.rt⟩, h.fr⟩, ?_⟩
  · unfold liveOk
    rw [List.all_eq_true]
    intro i hi
    have hv := h.pg.v.1 i hi
    rw [hr i hi]
    simp [pg_len h.ok h.sn hv.1 hv.2]
  · unfold liveL
    rw [h.pg.by_]
    exact List.map_congr_left (fun i hi => by rw [hr i hi])

end Go.Proofs.Ytjkhcfdflcndkaa.D
