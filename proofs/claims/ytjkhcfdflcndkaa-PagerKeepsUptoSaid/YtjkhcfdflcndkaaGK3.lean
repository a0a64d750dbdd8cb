/-
  PagerKeeps: the plain law. Commit; what is opened. Plain lists. No condition.
-/
import Derived.Test.YtjkhcfdflcndkaaGK2
namespace Go.Proofs.Ytjkhcfdflcndkaa.D
set_option linter.unusedVariables false
set_option linter.unusedSimpArgs false

theorem told_dead (P : PSt) (e : Int) : (P.told e).root = P.root ∧ (P.told e).gen = P.gen := ⟨rfl, rfl⟩

/-- A pager that lives reads each of its pages. -/
theorem alive_read {n : Nat} {S : St} {P : PSt} {L : Lst} (h : Alive n S P L) {l : List Int} (hl : ∀ k ∈ l, P.is k = true) : liveOk P S l = true ∧ liveL P S l = l.map (pg S) := by
  have hr : ∀ i ∈ l, P.read S i = (pg S i, 0) := fun i hi => by rw [pread_pg h.ok h.sd h.sn h.pf h.pp, if_pos (hl i hi)]
  constructor
  · unfold liveOk
    rw [List.all_eq_true]
    intro i hi
    have := is_true (hl i hi)
    have hp := h.pp
    rw [hr i hi]
    simp [pg_len h.ok h.sn this.1 (by omega)]
  · unfold liveL
    exact List.map_congr_left (fun i hi => by rw [hr i hi])

/-- Half way: everything is safe as it was read; in the next head's sector is the old one or the next. -/
theorem gone_half {n : Nat} {S S' : St} {P : PSt} {L : Lst} {root fr : Int} {l : List Int} (h : Alive n S P L) (hm : P.mayCommit root l = true) (hf : ¬ (fr < 1 ∨ 1152921504606846976 < fr ∨ 1152921504606846976 ≤ P.gen))
    (ok : S'.Ok) (sn : S'.n = S.n) (dead : S'.dead = true) (un : ∀ k, S'.un k = none) (h1 : ∀ k, k ≠ (P.gen + 1) % 2 → piece S'.safe k = sec S k)
    (h2 : piece S'.safe ((P.gen + 1) % 2) = sec S ((P.gen + 1) % 2) ∨ piece S'.safe ((P.gen + 1) % 2) = headB (P.gen + 1) (root + 1).toNat fr.toNat) :
    Gone n S' L ⟨root, fr, l, l.map (pg S)⟩ := by
  obtain ⟨m1, m2, m3, m4⟩ := may_root h.pok hm
  have hpp := h.pp
  have hg1 := h.hd.g1
  have hpg : ∀ i, 0 ≤ i → pg S' i = pg S i := fun i hi => pg_congr (fun j hj => by rw [sec_safe (un _), h1 _ (by omega)])
  refine ⟨ok, sn.trans h.sn, dead, un, h.pg.v, ?_⟩
  rcases h2 with h2 | h2
  · refine ⟨P.gen, P.root, P.from_, ?_, Or.inl ⟨h.rt, h.fr, h.pg.v, ?_, fun i _ j _ => un _⟩⟩
    · refine h.hd.stay (fun k _ => un k) (fun k hk => ?_)
      by_cases e : k = (P.gen + 1) % 2
      · rw [e, h2, sec_safe (h.hd.un01 _ (by omega))]
      · rw [h1 k e, sec_safe (h.hd.un01 k hk)]
    · rw [h.pg.by_]
      exact List.map_congr_left (fun i hi => (hpg i (h.pg.v.1 i hi).1).symm)
  · refine ⟨P.gen + 1, root, fr.toNat, ⟨by omega, by omega, m1, by omega, by omega, by omega, un _, h2, un _, ?_⟩, Or.inr ⟨rfl, by simp only; omega, ⟨fun i hi => ?_, m4⟩, ?_, fun i _ j _ => un _⟩⟩
    · have e : 1 - (P.gen + 1) % 2 = P.gen % 2 := by omega
      have e2 := h.hd.r1
      have e3 := h.hd.r2
      have hp2 := h.pok.p2
      rw [e, h1 _ (by omega), sec_safe h.hd.cu, h.hd.cur, head_parse h.hd.g1 h.hd.g2 rfl (by omega) (by omega) h.hd.f1 h.hd.f2]
      show P.gen < P.gen + 1
      omega
    · have := is_true (m3 i hi).1
      omega
    · exact List.map_congr_left (fun i hi => (hpg i (is_true (m3 i hi).1).1).symm)

theorem alive_commit {n : Nat} {S : St} {P : PSt} {L : Lst} (h : Alive n S P L) (root fr : Int) (l : List Int) :
    ((P.commit S root fr l).2.2 = 0 ∧ liveOk P S l = true ∧ Alive n (P.commit S root fr l).2.1 (P.commit S root fr l).1 ⟨root, fr, l, liveL P S l⟩) ∨
    ((P.commit S root fr l).2.2 ≠ 0 ∧ (P.commit S root fr l).2.2 ≠ 2 ∧ Alive n (P.commit S root fr l).2.1 (P.commit S root fr l).1 L) ∨
    ((P.commit S root fr l).2.2 = 2 ∧ liveOk P S l = true ∧ Gone n (P.commit S root fr l).2.1 L ⟨root, fr, l, liveL P S l⟩) := by
  have hok := commit_ok h.ok h.pok root fr l
  unfold PSt.commit at hok ⊢
  rw [if_neg (by simp [h.pd])] at hok ⊢
  by_cases hm : P.mayCommit root l = false
  · rw [if_pos hm]
    exact Or.inr (Or.inl ⟨by show (191 : Int) ≠ 0; decide, by show (191 : Int) ≠ 2; decide, h⟩)
  rw [if_neg hm] at hok ⊢
  have hm : P.mayCommit root l = true := by simpa using hm
  by_cases hf : fr < 1 ∨ 1152921504606846976 < fr ∨ 1152921504606846976 ≤ P.gen
  · rw [if_pos hf]
    exact Or.inr (Or.inl ⟨by show (190 : Int) ≠ 0; decide, by show (190 : Int) ≠ 2; decide, h⟩)
  rw [if_neg hf] at hok ⊢
  obtain ⟨m1, m2, m3, m4⟩ := may_root h.pok hm
  have hpp := h.pp
  have hsn := h.sn
  obtain ⟨r1, r2⟩ := alive_read h (fun k hk => (m3 k hk).1)
  rw [r2]
  have hlow : ∀ i, 0 ≤ i → ∀ j, 2 + 8 * (i : Int).toNat + j ≠ (P.gen + 1) % 2 := fun i hi j => by omega
  unfold PSt.goes at hok ⊢
  rcases sync_mod h.ok h.sd with ⟨s1, o1, n1, d1, u1, p1⟩ | ⟨s1, c1⟩
  rotate_left
  · right; right
    rw [if_pos (by rw [s1]; decide)]
    exact ⟨s1, r1, gone_cut h c1 (fun k f => f.elim)⟩
  rw [if_neg (by rw [s1]; decide)] at hok ⊢
  have hhl : (headB (P.gen + 1) (root + 1).toNat fr.toNat).length = 64 := headB_len _ _ _
  have hwm := write_mod o1 d1 ((P.gen + 1) % 2) (headB (P.gen + 1) (root + 1).toNat fr.toNat) (by omega) (by omega)
  have ehd : P.head S.sync.1 root fr = S.sync.1.write (((P.gen + 1) % 2 : Nat) : Int) (headB (P.gen + 1) (root + 1).toNat fr.toNat) := rfl
  rw [← ehd] at hwm
  obtain ⟨T, hT⟩ : ∃ T, T = P.head S.sync.1 root fr := ⟨_, rfl⟩
  rw [← hT] at hwm hok ⊢
  rw [hhl] at hwm
  have epc : piece (headB (P.gen + 1) (root + 1).toNat fr.toNat) ((P.gen + 1) % 2 - (P.gen + 1) % 2) = headB (P.gen + 1) (root + 1).toNat fr.toNat := by
    rw [Nat.sub_self]
    unfold piece
    rw [Nat.mul_zero, List.drop_zero, List.take_of_length_le (by omega)]
  rcases hwm with ⟨s2, md, hu2⟩ | ⟨s2, c2, hh2⟩
  rotate_left
  · right; right
    rw [if_pos (by rw [s2]; decide)]
    refine ⟨s2, r1, gone_half h hm hf c2.ok (c2.n.trans n1) c2.dead c2.un (fun k hk => ?_) ?_⟩
    · rcases c2.safe k (by omega) with e | e
      · rw [e, p1]
      · rw [u1] at e; cases e
    · rcases hh2 ((P.gen + 1) % 2) (by omega) (by omega) (u1 _) with e | e
      · left; rw [e, p1]
      · right; rw [e, epc]
  rw [if_neg (by rw [s2]; decide)] at hok ⊢
  have hua := hu2 ((P.gen + 1) % 2) (by omega) (by omega)
  rw [epc] at hua
  rcases sync_mod md.ok md.dead with ⟨s3, o3, n3, d3, u3, p3⟩ | ⟨s3, c3⟩
  rotate_left
  · right; right
    rw [if_pos (by rw [s3]; decide)]
    refine ⟨s3, r1, gone_half h hm hf c3.ok (c3.n.trans (md.n.trans n1)) c3.dead c3.un (fun k hk => ?_) ?_⟩
    · rcases c3.safe k (fun f => f) with e | e
      · rw [e, md.safe, p1]
      · rw [md.un k (by omega), u1] at e; cases e
    · rcases c3.safe ((P.gen + 1) % 2) (fun f => f) with e | e
      · left; rw [e, md.safe, p1]
      · right
        rw [hua] at e
        injection e with e
        exact e.symm
  rw [if_neg (by rw [s3]; decide)] at hok ⊢
  left
  have pk : ∀ k, k ≠ (P.gen + 1) % 2 → piece T.1.sync.1.safe k = sec S k := fun k hk => by
    rw [p3, sec_safe (by rw [md.un k (by omega), u1]), md.safe, p1]
  have pa : piece T.1.sync.1.safe ((P.gen + 1) % 2) = headB (P.gen + 1) (root + 1).toNat fr.toNat := by
    rw [p3]
    unfold sec
    rw [hua]
    rfl
  have hg1 := h.hd.g1
  refine ⟨rfl, r1, ⟨o3, n3.trans (md.n.trans (n1.trans hsn)), d3, ?_, h.pf, h.pp, h.pd, rfl, by show ((fr.toNat : Nat) : Int) = fr; omega, fun i => rfl, fun i hi => rfl, ?_, ⟨⟨fun i hi => ?_, m4⟩, ?_, fun i _ j _ => u3 _⟩⟩⟩
  · rw [n3.trans (md.n.trans n1)]; exact hok.1
  · refine ⟨by show 1 ≤ P.gen + 1; omega, by show P.gen + 1 ≤ _; omega, m1, by show root < n; omega, by show 1 ≤ fr.toNat; omega, by show fr.toNat ≤ _; omega, u3 _, pa, u3 _, ?_⟩
    show (parseP n (1 - (P.gen + 1) % 2) (piece T.1.sync.1.safe (1 - (P.gen + 1) % 2))).1 < P.gen + 1
    have e : 1 - (P.gen + 1) % 2 = P.gen % 2 := by omega
    have e2 := h.hd.r1
    have e3 := h.hd.r2
    have hp2 := h.pok.p2
    rw [e, pk _ (by omega), sec_safe h.hd.cu, h.hd.cur, head_parse h.hd.g1 h.hd.g2 rfl (by omega) (by omega) h.hd.f1 h.hd.f2]
    show P.gen < P.gen + 1
    omega
  · have := is_true (m3 i hi).1
    omega
  · refine List.map_congr_left (fun i hi => ?_)
    have hi0 := (is_true (m3 i hi).1).1
    exact (pg_congr (fun j hj => by rw [sec_safe (u3 _), pk _ (hlow i hi0 j)])).symm

/-- What is opened behind a power cut. -/
theorem reopen {n : Nat} {S : St} {last next : Lst} (h1 : 1 ≤ n) (hn : n ≤ 4096) (h : Gone n S last next) :
    ∃ Q, openP S.revive 2 n = (some Q, 0) ∧ Q.Ok S.n ∧
      (standsP Q S.revive last = true → (Q.setLive last.pages).2 = 0 ∧ Alive n S.revive (Q.setLive last.pages).1 last) ∧
      (standsP Q S.revive last = false → standsP Q S.revive next = true ∧ (Q.setLive next.pages).2 = 0 ∧ Alive n S.revive (Q.setLive next.pages).1 next) := by
  obtain ⟨g, rt, fr, hh, hw⟩ := h.w
  have hro := revive_ok h.ok
  have hsn : S.revive.n = 2 + 8 * n := hro.2.trans h.sn
  have hhr : Hds S.revive n g rt fr := ⟨hh.g1, hh.g2, hh.r1, hh.r2, hh.f1, hh.f2, hh.cu, hh.cur, hh.ou, hh.oth⟩
  have hop := hds_open (S := S.revive) rfl hsn h1 hn hhr
  obtain ⟨Q, hQ⟩ : ∃ Q, Q = PSt.of 2 n (g, rt, fr) := ⟨_, rfl⟩
  rw [← hQ] at hop
  have hqok : Q.Ok S.n := by
    have := open_ok (S := S.revive) 2 n Q (by rw [hop])
    rwa [hro.2] at this
  have q1 : Q.first = 2 := by rw [hQ]; rfl
  have q2 : Q.pages = n := by rw [hQ]; rfl
  have q3 : Q.root = rt := by rw [hQ]; rfl
  have q4 : Q.from_ = fr := by rw [hQ]; rfl
  have q5 : Q.gen = g := by rw [hQ]; rfl
  have q6 : Q.dead = false := by rw [hQ]; rfl
  have q7 : Q.taken = none_ := by rw [hQ]; rfl
  have hrd : ∀ i, Q.read S.revive i = if Q.is i then (pg S i, 0) else ([], 191) := fun i => pread_pg (S := S.revive) hro.1 rfl hsn q1 q2 i
  have his : ∀ i : Int, 0 ≤ i → i < n → Q.is i = true := fun i h0 h1 => by unfold PSt.is; rw [q2]; simp; omega
  have key : ∀ L : Lst, Vld n L.pages → standsP Q S.revive L = true → (Q.setLive L.pages).2 = 0 ∧ Alive n S.revive (Q.setLive L.pages).1 L := by
    intro L hv hst
    have hset : setOk Q.is L.pages = true := by
      unfold setOk
      simp only [Bool.and_eq_true, decide_eq_true_eq, List.all_eq_true]
      exact ⟨fun i hi => his i (hv.1 i hi).1 (hv.1 i hi).2, hv.2⟩
    have e : Q.setLive L.pages = ({ Q with live := fun i => L.pages.contains i }, 0) := by unfold PSt.setLive; rw [if_pos hset]
    have hlo := live_ok hqok L.pages
    unfold standsP at hst
    simp only [Bool.and_eq_true, decide_eq_true_eq] at hst
    obtain ⟨⟨⟨_, s2⟩, s3⟩, s4⟩ := hst
    rw [e] at hlo ⊢
    refine ⟨rfl, hro.1, hsn, rfl, by rw [hro.2]; exact hlo, q1, q2, q6, s2, s3, fun i => rfl, fun i hi => ?_, ?_, hv, ?_, fun i _ j _ => h.un _⟩
    · show Q.taken i = false
      rw [q7]
      rfl
    · show Hds S.revive n Q.gen Q.root Q.from_
      rw [q3, q4, q5]
      exact hhr
    · rw [← s4]
      unfold liveL
      refine List.map_congr_left (fun i hi => ?_)
      rw [hrd i, if_pos (his i (hv.1 i hi).1 (hv.1 i hi).2)]
      rfl
  have here : ∀ L : Lst, Here S n L rt fr → standsP Q S.revive L = true := by
    rintro L ⟨a1, a2, a3⟩
    unfold standsP
    simp only [Bool.and_eq_true, decide_eq_true_eq]
    refine ⟨⟨⟨?_, by rw [q3]; exact a1⟩, by rw [q4]; exact a2⟩, ?_⟩
    · unfold liveOk
      rw [List.all_eq_true]
      intro i hi
      have hv := a3.v.1 i hi
      rw [hrd i, if_pos (his i hv.1 hv.2)]
      simp [pg_len h.ok h.sn hv.1 hv.2]
    · unfold liveL
      rw [a3.by_]
      refine List.map_congr_left (fun i hi => ?_)
      have hv := a3.v.1 i hi
      rw [hrd i, if_pos (his i hv.1 hv.2)]
  refine ⟨Q, hop, hqok, fun hst => key last h.v hst, fun hst => ?_⟩
  rcases hw with hw | hw
  · rw [here last hw] at hst; cases hst
  · exact ⟨here next hw, key next hw.2.2.v (here next hw)⟩

/-- What Format lays over noughts. -/
theorem alive_laid {n : Nat} (h1 : 1 ≤ n) (hn : n ≤ 60) : Alive n (fmtP (laidS n) 1).1 (laidP n) ⟨-1, 1, [], []⟩ := by
  have hok : (laidS n).Ok := news_ok (laid_image hn)
  have hN := laid_n n
  have hfo := fmt_ok hok 1
  have hf := fmt_calm hok rfl rfl (by omega) 1
  obtain ⟨U, hU⟩ : ∃ U, U = wun 1 0 (headB 2 0 1) (wun 1 1 (List.replicate 64 0) (laidS n).un) := ⟨_, rfl⟩
  have hT : ({ laidS n with un := U } : St).Ok := by
    have a1 := write_calm0 (S := laidS n) rfl rfl 1 (List.replicate 64 0) List.length_replicate (by omega)
    have b1 := write_ok hok 1 (List.replicate 64 0)
    rw [show ((1 : Nat) : Int) = 1 from rfl] at a1
    rw [a1] at b1
    have a2 := write_calm0 (S := { laidS n with un := wun 1 1 (List.replicate 64 0) (laidS n).un }) rfl rfl 0 (headB 2 0 1) (headB_len 2 0 1) (show 0 < (laidS n).n by omega)
    have b2 := write_ok b1.1 0 (headB 2 0 1)
    rw [show ((0 : Nat) : Int) = 0 from rfl] at a2
    simp only at a2 b2
    rw [a2] at b2
    rw [hU]
    exact b2.1
  rw [← hU] at hf
  have hun : ∀ k, (fmtP (laidS n) 1).1.un k = none := fun k => by rw [hf]; rfl
  have hpc : ∀ k, piece (fmtP (laidS n) 1).1.safe k = sec { laidS n with un := U } k := fun k => by
    rw [hf]
    exact image_piece hT k
  have h0 : piece (fmtP (laidS n) 1).1.safe 0 = headB 2 0 1 := by
    rw [hpc, hU]
    show (wun 1 0 (headB 2 0 1) (wun 1 1 (List.replicate 64 0) (laidS n).un) 0).getD _ = _
    unfold wun
    rw [if_pos (by omega)]
    show piece (headB 2 0 1) 0 = _
    unfold piece
    rw [Nat.mul_zero, List.drop_zero, List.take_of_length_le (by rw [headB_len]; omega)]
  have hz : piece (fmtP (laidS n) 1).1.safe 1 = List.replicate 64 0 := by
    rw [hpc, hU]
    show (wun 1 0 (headB 2 0 1) (wun 1 1 (List.replicate 64 0) (laidS n).un) 1).getD _ = _
    unfold wun
    rw [if_neg (by omega), if_pos (by omega)]
    show piece (List.replicate 64 0) 0 = _
    unfold piece
    rw [Nat.mul_zero, List.drop_zero, List.take_of_length_le (by rw [List.length_replicate]; omega)]
  have hpo : (laidP n).Ok (laidS n).n := (format_ok hok 2 n 1).2.2 (laidP n) (by rw [laid_format h1 hn])
  have hh : Hds (fmtP (laidS n) 1).1 n 2 (-1) 1 := by
    refine ⟨by omega, by omega, by omega, by omega, by omega, by omega, hun _, h0, hun _, ?_⟩
    show (parseP n 1 (piece (fmtP (laidS n) 1).1.safe 1)).1 < 2
    rw [hz, zeros_parse]
    show 0 < 2
    omega
  exact ⟨hfo.1, hfo.2.trans hN, by rw [hf]; rfl, by rw [hfo.2]; exact hpo, rfl, rfl, rfl, rfl, rfl, fun i => rfl, (fun i hi => by cases hi), hh, ⟨(fun i hi => by cases hi), List.nodup_nil⟩, rfl, fun i hi => by cases hi⟩

end Go.Proofs.Ytjkhcfdflcndkaa.D
