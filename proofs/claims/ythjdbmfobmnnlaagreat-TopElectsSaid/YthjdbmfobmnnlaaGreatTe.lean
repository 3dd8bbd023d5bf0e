/-
  Te: several texts in one.
-/
import Derived.Test.YthjdbmfobmnnlaaGreatLv
/-
  A group behind few items, pure (A).
-/
namespace Go.Proofs.YthjdbmfobmnnlaaGreat
open Go.RowKit
set_option linter.unusedVariables false
/-! ### What a member is behind so few items -/
theorem merge_few (M : List En) : ∀ (E : List En) (i : Nat), i ≤ M.length → mergeL M i E = M ∨ (i < i + E.length ∧ ∃ c, i ≤ c ∧ c ≤ M.length ∧ c ≤ i + E.length ∧ (mergeL M i E).take c = M.take c ∧ (mergeL M i E).length = i + E.length)
  | [], i, h => .inl (by rw [mergeL])
  | m :: ms, i, h => by
    by_cases q : i < M.length ∧ (M.getD i default).1 = m.1
    · rw [mergeL_same q]
      rcases merge_few M ms (i + 1) q.1 with e | ⟨_, c, c1, c2, c3, c4, c5⟩
      · exact .inl e
      · exact .inr ⟨by simp, c, by omega, c2, by rw [List.length_cons]; omega, c4, by rw [c5, List.length_cons]; omega⟩
    · rw [mergeL_new q]
      refine .inr ⟨by simp, i, Nat.le_refl _, h, by omega, ?_, ?_⟩
      · rw [List.take_append_of_le_length (by rw [List.length_take]; omega), List.take_take, Nat.min_self]
      · rw [List.length_append, List.length_take, Nat.min_eq_left h]
/-- A log that another one became costs so little. -/
def Cheap (M L : List En) : Prop := L.length ≤ commonN M L + 8
theorem Cheap.refl (M : List En) : Cheap M M := by unfold Cheap; rw [commonN_self]; omega
theorem Cheap.snoc (M : List En) (e : En) : Cheap M (M ++ [e]) := by unfold Cheap; rw [commonN_pre]; simp
theorem Cheap.merge {M E : List En} {i : Nat} (h : i ≤ M.length) (hE : E.length ≤ 8) : Cheap M (mergeL M i E) := by
  rcases merge_few M E i h with e | ⟨_, c, c1, c2, c3, c4, c5⟩
  · rw [e]; exact .refl M
  · have := commonN_max (X := M) (L := mergeL M i E) c2 (by omega) c4.symm
    unfold Cheap
    omega
structure Few (k : Nat) (m : Mb) : Prop where
  term : m.term ≤ k
  len : m.log.length ≤ k
  fair : ∀ e ∈ m.log, EnFair e
  lead : m.role = 2 → 1 ≤ m.log.length ∧ endT m.log 0 = m.term ∧ m.settle = m ∧ (m.prAt m.id).1 = (m.log.length : Int) ∧ ∀ j : Int, 1 ≤ j → j ≤ m.prog.length → j ≠ m.id → 1 ≤ (m.prAt j).2
structure FewM (k : Nat) (x : Ms) : Prop where
  term : x.term ≤ k
  ents : x.ents.length ≤ 8
  upto : x.ents = [] ∨ x.index + x.ents.length ≤ k
  fair : ∀ e ∈ x.ents, EnFair e
theorem Few.up {k : Nat} {m : Mb} (h : Few k m) : Few (k + 1) m := ⟨by have := h.term; omega, by have := h.len; omega, h.fair, h.lead⟩
theorem FewM.up {k : Nat} {x : Ms} (h : FewM k x) : FewM (k + 1) x := ⟨by have := h.term; omega, h.ents, h.upto.imp id (by omega), h.fair⟩
theorem FewM.bare {k : Nat} {x : Ms} (h1 : x.term ≤ k) (h2 : x.ents = []) : FewM k x := ⟨h1, by rw [h2]; exact Nat.zero_le _, .inl h2, by rw [h2]; exact fun e he => by cases he⟩
theorem Few.addn {k : Nat} {m : Mb} (h : Few k m) (ok : MbOk m) (j : Int) : FewM k (m.addn j) := by
  have hp := ok.prAt j
  have e2 : (m.addn j).ents = fromL 0 m.log (m.prAt j).2 8 := by
    show fromF 0 0 m.log (m.prAt j).2 8 = _
    unfold fromF
    rw [fairL_yes ok.log]
  have ei : (m.addn j).index = (m.prAt j).2 - 1 := rfl
  have et : (m.addn j).term = m.term := rfl
  unfold fromL at e2
  by_cases hc : (m.prAt j).2 ≤ 0 ∨ 0 + (m.log.length : Int) < (m.prAt j).2 ∨ (8 : Int) ≤ 0
  · rw [if_pos hc] at e2
    exact .bare (by rw [et]; exact h.term) e2
  · rw [if_neg hc] at e2
    have hlen : (m.addn j).ents.length = min 8 (m.log.length - ((m.prAt j).2 - 0 - 1).toNat) := by rw [e2, List.length_take, List.length_drop]; rfl
    refine ⟨by rw [et]; exact h.term, by omega, .inr ?_, fun e he => ?_⟩
    · have := h.len
      rw [ei, hlen]
      omega
    · rw [e2] at he
      exact h.fair e (List.mem_of_mem_drop (List.mem_of_mem_take he))
theorem Few.adds {k : Nat} {m : Mb} (h : Few k m) (ok : MbOk m) : ∀ y ∈ m.adds, FewM k y := fun y hy => by
  obtain ⟨_, _, _, rfl⟩ := toAll_mem hy
  exact h.addn ok _
theorem Few.lead_ {k : Nat} {m : Mb} (ht : m.term ≤ k + 1) (hl : m.log.length ≤ k) (hf : ∀ e ∈ m.log, EnFair e) (ok : MbOk m) (h1 : 1 ≤ m.term) (hk : k < 64) : Few (k + 1) m.lead ∧ Cheap m.log m.lead.log := by
  have L := fun (j : Int) (j1 : 1 ≤ j) (j2 : j ≤ (m.prog.length : Int)) => lead_prAt ok h1 (by omega) j1 j2
  have i1 := ok.id1
  have i2 := ok.idn
  obtain ⟨l1, l2, l3, _, l5, l6, l7⟩ := L m.id i1 i2
  obtain ⟨b1, b2, b3⟩ := lead_ballot m
  refine ⟨⟨by rw [b2]; exact_mod_cast ht, by rw [l1]; simp; omega, fun e he => ?_, fun _ => ⟨by rw [l1]; simp, by rw [l1, endT_snoc, b2], l5, by rw [b1, l2, l1]; simp, fun j j1 j2 j3 => ?_⟩⟩, by rw [l1]; exact .snoc _ _⟩
  · rw [l1] at he
    rcases List.mem_append.1 he with q | q
    · exact hf e q
    · rw [List.mem_singleton] at q; subst q; exact zero_fair _
  · rw [l7] at j2
    have := (L j j1 j2).2.2.1
    omega
/-- What a member becomes, and says. -/
structure Next (k : Nat) (m : Mb) (r : Mb × List Ms) : Prop where
  few : Few (k + 1) r.1
  says : ∀ y ∈ r.2, FewM (k + 1) y
  cheap : Cheap m.log r.1.log
theorem Next.none {k : Nat} {m : Mb} (h : Few k m) : Next k m (m, []) := ⟨h.up, (fun y hy => by cases hy), .refl _⟩
theorem Few.timeout {k : Nat} {m : Mb} (h : Few k m) (ok : MbOk m) (hk : k < 64) : Next k m m.timeout := by
  unfold Mb.timeout
  split
  · exact .none h
  rename_i hn
  have hb := mayV_true ok.ballot
  have oks : MbOk m.stand := ok.stand (by omega)
  have ht : m.stand.term ≤ ((k + 1 : Nat) : Int) := by show m.term + 1 ≤ _; have := h.term; omega
  split
  · have hl := Few.lead_ (k := k) (m := m.stand) (by exact_mod_cast ht) h.len h.fair oks (by show 1 ≤ m.term + 1; omega) hk
    exact ⟨hl.1, hl.1.adds (oks.lead (by show 1 ≤ m.term + 1; omega)), hl.2⟩
  · refine ⟨⟨ht, by have := h.len; show m.log.length ≤ _; omega, h.fair, fun q => absurd q (by show ¬ (1 : Int) = 2; decide)⟩, fun y hy => ?_, .refl _⟩
    obtain ⟨_, _, _, rfl⟩ := toAll_mem hy
    exact .bare ht rfl
theorem Few.beat {k : Nat} {m : Mb} (h : Few k m) (ok : MbOk m) : Next k m m.beat := by
  refine ⟨h.up, fun y hy => ?_, .refl _⟩
  have hy : y ∈ (if m.role = 2 then m.adds else []) := hy
  split at hy
  · exact h.up.adds ok y hy
  · cases hy
theorem Few.propose {k : Nat} {m : Mb} (h : Few k m) (ok : MbOk m) (hk : k < 64) {a b : Int} (ha : 0 ≤ a ∧ a ≤ 1073741824) (hb : 0 ≤ b ∧ b ≤ 1073741824) : Next k m ((m.propose (Gr.cmd a b)).1, (m.propose (Gr.cmd a b)).2.2.1) := by
  unfold Mb.propose
  split
  · exact .none h
  rename_i hr
  have hr : m.role = 2 := by omega
  split
  · exact .none h
  rename_i hl
  obtain ⟨k1, k2, k3, k4, k5, k6, k7, k8, k9⟩ := took_all ok hr (by omega) (Gr.cmd a b)
  have h1 : 1 ≤ m.term := ok.live (by omega)
  obtain ⟨z1, z2, z3, z4, z5⟩ := h.lead hr
  have few : Few (k + 1) (m.took (Gr.cmd a b)) := ⟨by rw [k2]; have := h.term; omega, by rw [k1]; have := h.len; simp; omega, fun e he => by
    rw [k1] at he
    rcases List.mem_append.1 he with q | q
    · exact h.fair e q
    · rw [List.mem_singleton] at q; subst q
      unfold EnFair Fair Gr.cmd
      intro v hv
      simp only [List.mem_cons, List.not_mem_nil, or_false] at hv
      rcases hv with rfl | rfl | rfl | rfl | rfl | rfl <;> omega, fun _ => ⟨by rw [k1]; simp, by rw [k1, endT_snoc, k2], k8, by rw [k5, k6, k1]; simp, fun j j1 j2 j3 => by
      rw [k5] at j3
      rw [k7 j j1 j3]
      have : (m.took (Gr.cmd a b)).prog.length = m.prog.length := by
        unfold Mb.took Mb.settle Mb.mark
        simp only [List.length_set]
        rw [(put_facts m _).2.2.2.2.1]
      exact z5 j j1 (by omega) j3⟩⟩
  exact ⟨few, few.adds (ok.took h1 _), by show Cheap _ (m.took _).log; rw [k1]; exact .snoc _ _⟩
theorem Few.vote_ {k : Nat} {m : Mb} (h : Few k m) (v : Int) : Few k { m with term := m.term, vote := v } := ⟨h.term, h.len, h.fair, fun q => by
  obtain ⟨z1, z2, z3, z4, z5⟩ := h.lead q
  have h3 := of_settle z3
  exact ⟨z1, z2, settle_of (m := { m with term := m.term, vote := v }) (s := 0) h3, z4, z5⟩⟩
theorem Few.follow_ {k : Nat} {m : Mb} (h : Few k m) : Few k m.follow := ⟨h.term, h.len, h.fair, fun q => absurd q (by show ¬ (0 : Int) = 2; decide)⟩
theorem Few.seen_ {k : Nat} {m : Mb} {x : Ms} (h : Few k m) (hx : FewM k x) : Few k (m.seen x) := by
  unfold Mb.seen
  split
  · exact ⟨hx.term, h.len, h.fair, fun q => absurd q (by show ¬ (0 : Int) = 2; decide)⟩
  · exact h
theorem Next.of {k : Nat} {m s : Mb} {r : Mb × List Ms} (hl : s.log = m.log) (h : Next k s r) : Next k m r := ⟨h.few, h.says, by rw [← hl]; exact h.cheap⟩
theorem Next.one {k : Nat} {m m' : Mb} {y : Ms} (h : Few (k + 1) m') (hy : FewM (k + 1) y) (hc : Cheap m.log m'.log) : Next k m (m', [y]) := ⟨h, fun z hz => by rw [List.mem_singleton] at hz; subst hz; exact hy, hc⟩
/-- What is known of another one is changed. -/
theorem Few.pr_ {k : Nat} {m m' : Mb} {j : Int} (h : Few k m) (hr : m.role = 2) (hj : j ≠ m.id) (e1 : m'.term = m.term) (e2 : m'.log = m.log) (e3 : m'.id = m.id) (e4 : m'.prog.length = m.prog.length) (fx : m'.settle = m') (po : ∀ i, 1 ≤ i → i ≠ j → m'.prAt i = m.prAt i) (pj : 1 ≤ (m'.prAt j).2) (hid : 1 ≤ m.id) : Few k m' := ⟨by rw [e1]; exact h.term, by rw [e2]; exact h.len, by rw [e2]; exact h.fair, fun _ => by
  obtain ⟨z1, z2, z3, z4, z5⟩ := h.lead hr
  refine ⟨by rw [e2]; exact z1, by rw [e2, e1]; exact z2, fx, by rw [e3, po _ hid (fun q => hj q.symm), e2]; exact z4, fun i i1 i2 i3 => ?_⟩
  by_cases q : i = j
  · rw [q]; exact pj
  · rw [po i i1 q]; exact z5 i i1 (by rw [← e4]; exact i2) (by rw [← e3]; exact i3)⟩
theorem Few.hear {k : Nat} {m : Mb} {x : Ms} (h : Few k m) (ok : MbOk m) (hx : FewM k x) (hk : k < 64) : Next k m (m.hear x) := by
  unfold Mb.hear
  split
  rotate_left 1
  · exact .none h
  rename_i hh
  unfold Mb.hears at hh
  rw [decide_eq_true_eq] at hh
  obtain ⟨h1, h2, h3, h4, h5, h6, h7, h8⟩ := hh
  have hs := h.seen_ hx
  have oks := ok.seen x h6
  obtain ⟨s1, s2, s3, s4, s5, s6, s7⟩ := seen_all m x
  have hle : x.term ≤ (m.seen x).term := by omega
  have hid : x.frm ≠ (m.seen x).id := by rw [s1]; exact h4
  have hfr : x.frm ≤ (m.seen x).prog.length := by rw [s4]; exact h3
  refine Next.of s2 ?_
  generalize m.seen x = s at *
  have hst := hs.term
  have ht1 : ∀ y : Ms, y.term = s.term → y.ents = [] → FewM (k + 1) y := fun y e1 e2 => .bare (by rw [e1]; omega) e2
  unfold Mb.acts
  split
  · have hsf : seeF s.term s.vote x.term = (s.term, s.vote) := if_neg (by omega)
    have hg : (grantF s.term s.vote 0 0 s.log x.frm x.term x.index x.lterm).1 = s.term := by unfold grantF; split <;> rw [hsf]
    have e : s.asked x = ({ s with term := s.term, vote := (grantF s.term s.vote 0 0 s.log x.frm x.term x.index x.lterm).2.1 }, [{ s.say 1 x.frm with yes := (grantF s.term s.vote 0 0 s.log x.frm x.term x.index x.lterm).2.2 }]) := by unfold Mb.asked; simp only [hg]
    rw [e]
    exact .one (hs.vote_ _).up (ht1 _ rfl rfl) (.refl _)
  split
  · unfold Mb.voted
    split
    · exact .none hs
    rename_i hn
    have hr : s.role = 1 := Classical.byContradiction fun q => hn (.inl q)
    have hlv := oks.live (by omega)
    have okc := oks.counted x ⟨h2, by have := oks.n16; omega⟩
    split
    · have hl := Few.lead_ (k := k) (m := s.counted x) (by show s.term ≤ _; omega) hs.len hs.fair okc hlv hk
      exact ⟨hl.1, hl.1.adds (okc.lead hlv), hl.2⟩
    · exact ⟨⟨by show s.term ≤ _; omega, by have := hs.len; show s.log.length ≤ _; omega, hs.fair, fun q => absurd (show s.role = 2 from q) (by omega)⟩, (fun y hy => by cases hy), .refl _⟩
  split
  · unfold Mb.add
    split
    · exact .one hs.up (ht1 _ rfl rfl) (.refl _)
    split
    · exact .none hs
    split
    · exact .one hs.follow_.up (ht1 _ rfl rfl) (.refl _)
    · rename_i h9 h10 h11
      have he : (addF 0 0 s.log x.index x.lterm x.ents).2.2.2 = 0 := Classical.byContradiction fun q => h11 (.inl q)
      obtain ⟨a1, a2, a3, a4, a5, a6, a7⟩ := addF_ok he
      have hL : (addF 0 0 s.log x.index x.lterm x.ents).2.2.1 = mergeL s.log x.index.toNat x.ents := by rw [a7]
      rw [hL]
      refine .one ⟨by show s.term ≤ _; omega, ?_, fun e hm => ?_, fun q => absurd q (by show ¬ (0 : Int) = 2; decide)⟩ (ht1 _ rfl rfl) ?_
      · show (mergeL s.log x.index.toNat x.ents).length ≤ k + 1
        have := hs.len
        rcases merge_few s.log x.ents x.index.toNat (by omega) with e | ⟨e, _, _, _, _, _, e2⟩
        · rw [e]; omega
        · rw [e2]
          rcases hx.upto with u | u
          · rw [u] at e; simp at e
          · omega
      · rcases mergeL_mem hm with q | q
        · exact hs.fair e q
        · exact hx.fair e q
      · exact Cheap.merge (by omega) hx.ents
  · unfold Mb.added
    split
    · exact .none hs
    rename_i hn
    have hr : s.role = 2 := Classical.byContradiction fun q => hn (.inl q)
    have i1 := oks.id1
    have hpl : (x.frm - 1).toNat < s.prog.length := by omega
    have pth : ∀ {p : Int × Int} {j : Int}, 1 ≤ j → j ≠ x.frm → (s.setPr x.frm p).prAt j = s.prAt j := fun {p j} j1 j2 => by
      rcases s.setPr_prAt (j := j) (k := x.frm) j1 h2 p with ⟨_, e⟩ | e
      · exact (j2 e).elim
      · exact e
    have hll : ∀ p : Int × Int, (s.setPr x.frm p).prog.length = s.prog.length := fun p => by unfold Mb.setPr; simp
    split
    · have fx : (s.back x).settle = s.back x := by
        refine settle_of (s := 0) ?_
        have := of_settle (hs.lead hr).2.2.1
        have e := setPr_fst s (k := x.frm) (p := ((s.prAt x.frm).1, max 1 (min ((s.prAt x.frm).2 - 2) x.index + 1))) rfl
        show commitF 0 0 s.log ((s.setPr x.frm _).prog.map (·.1)) s.term s.settled = s.settled
        rw [e]
        exact this
      have few : Few k (s.back x) := hs.pr_ hr hid rfl rfl rfl (hll _) fx (fun i i1 i2 => pth i1 i2) (by show 1 ≤ ((s.setPr x.frm _).prAt x.frm).2; rw [setPr_get s hpl]; show (1 : Int) ≤ max 1 _; omega) i1
      exact .one few.up (few.up.addn (oks.back x) _) (.refl _)
    split
    · exact .none hs
    · rename_i h10 h11
      have hlf := oks.lastF
      rw [hlf] at h11
      simp only at h11
      have h64 := oks.len64
      have hp := oks.prAt x.frm
      have okp : MbOk (s.setPr x.frm (max (s.prAt x.frm).1 x.index, max (s.prAt x.frm).1 x.index + 1)) := oks.setPr _ _ (by simp only; omega)
      have few : Few k (s.matched x) := hs.pr_ hr hid rfl rfl rfl (hll _) (settle_fix okp) (fun i i1 i2 => pth i1 i2) (by show 1 ≤ ((s.setPr x.frm _).prAt x.frm).2; rw [setPr_get s hpl]; show 1 ≤ max (s.prAt x.frm).1 x.index + 1; omega) i1
      split
      · exact ⟨few.up, (fun y hy => by cases hy), .refl _⟩
      · exact .one few.up (few.up.addn okp.settle _) (.refl _)
end Go.Proofs.YthjdbmfobmnnlaaGreat

/-
  A group behind few items, pure (B).
-/
namespace Go.Proofs.YthjdbmfobmnnlaaGreat
open Go.RowKit
set_option linter.unusedVariables false
/-! ### A group behind so few items -/
structure FewP (k : Nat) (p : Mb × Vt) : Prop where
  few : Few k p.1
  disk : p.2.1.length ≤ 830 * k
structure FewG (k : Nat) (g : Gr) : Prop where
  all : ∀ (i : Nat) (p : Mb × Vt), g.ms[i]? = some p → FewP k p
  net : ∀ x ∈ g.net, FewM k x
theorem FewP.up {k : Nat} {p : Mb × Vt} (h : FewP k p) : FewP (k + 1) p := ⟨h.few.up, by have := h.disk; omega⟩
theorem FewG.up {k : Nat} {g : Gr} (h : FewG k g) : FewG (k + 1) g := ⟨fun i p hp => (h.all i p hp).up, fun x hx => (h.net x hx).up⟩
theorem FewG.upto {k : Nat} {g : Gr} (h : FewG k g) : ∀ {j : Nat}, k ≤ j → FewG j g
  | 0, hj => by have : k = 0 := by omega
                subst this; exact h
  | j + 1, hj => by
    by_cases e : k = j + 1
    · subst e; exact h
    · exact (h.upto (by omega)).up
theorem FewG.new (n : Nat) : FewG 0 (newGr n) := by
  refine ⟨fun i p hp => ?_, fun x hx => by cases hx⟩
  unfold newGr at hp
  simp only [List.getElem?_map] at hp
  cases hq : (List.range n)[i]? with
  | none => rw [hq] at hp; cases hp
  | some j =>
    rw [hq] at hp
    injection hp with hp
    subst hp
    exact ⟨⟨Int.le_refl _, Nat.le_refl _, (fun e he => by cases he), fun q => absurd q (by show ¬ (0 : Int) = 2; decide)⟩, Nat.le_refl _⟩
/-- A member that begins anew. -/
theorem Few.fresh {k n : Nat} {i : Int} {x : Vt} (h1 : x.2.2.1 ≤ k) (h2 : x.2.2.2.2.length ≤ k) (h3 : ∀ e ∈ x.2.2.2.2, EnFair e) : Few k (fresh i n x) := ⟨h1, h2, h3, fun q => absurd q (by show ¬ (0 : Int) = 2; decide)⟩
theorem FewP.again {k n i : Nat} {j : Int} {m : Nat} {p : Mb × Vt} (h : FewP k p) (hp : PairOk n i p) : FewP k (fresh j m p.2, p.2) := by
  refine ⟨.fresh ?_ ?_ ?_, h.disk⟩
  · rw [hp.holds]; exact h.few.term
  · rw [hp.holds]; exact h.few.len
  · rw [hp.holds]; exact h.few.fair
/-- What was saved costs at most 830 bytes. -/
theorem save_few {k n i : Nat} {p : Mb × Vt} (h : p.2.1.length ≤ 830 * k) (hp : PairOk n i p) {m : Mb} (hm : InGr n m) (hf : ∀ e ∈ m.log, EnFair e) (hc : Cheap p.1.log m.log) : (saved m p.2).1.length ≤ 830 * (k + 1) := by
  unfold saved
  by_cases hs : saves m p.2 = 0
  · have hh := hp.holds
    have sok : SaveOk p.2.2.2 m.term m.vote m.log := ⟨hp.vt.held, hm.mb.ballot, hm.mb.log, hf⟩
    have hfine := saveB_fine sok
    have e2 : p.2.2.2.2.2 = p.1.log := by rw [hh]
    rw [e2] at hfine
    unfold Cheap at hc
    rw [saveV_eq hs]
    show (p.2.1 ++ saveB p.2.2.2 m.term m.vote m.log).length ≤ _
    rw [List.length_append]
    have a1 : (if p.2.2.2.1 = m.term ∧ p.2.2.2.2.1 = m.vote then 0 else 83) ≤ 83 := by split <;> omega
    have a2 : (if commonN p.1.log m.log < p.1.log.length then 83 else 0) ≤ 83 := by split <;> omega
    omega
  · rw [saveV_no hs]; omega
namespace FewG
variable {k : Nat} {g : Gr}
theorem at_ (h : FewG k g) {i : Int} (h1 : 1 ≤ i) (h2 : i ≤ g.ms.length) : FewP k (g.at_ i) := by
  have hi : (i - 1).toNat < g.ms.length := by omega
  unfold Gr.at_
  rw [List.getD_eq_getElem?_getD, List.getElem?_eq_getElem hi]
  exact h.all _ _ (List.getElem?_eq_getElem hi)
theorem set (h : FewG k g) {i : Int} {p : Mb × Vt} (hp : FewP k p) {net : List Ms} (hn : ∀ x ∈ net, FewM k x) : FewG k ⟨(g.set i p).ms, net⟩ := by
  refine ⟨fun j q hq => ?_, hn⟩
  unfold Gr.set at hq
  simp only at hq
  rw [List.getElem?_set] at hq
  split at hq
  · split at hq
    · injection hq with hq
      subst hq
      exact hp
    · cases hq
  · exact h.all j q hq
theorem anew (h : FewG k g) {i : Int} {x : Vt} (hp : FewP k (fresh i g.ms.length x, x)) : FewG k (g.anew i x) := h.set hp h.net
theorem acts (h : FewG k g) (ok : GrOk g) {i : Int} (h1 : 1 ≤ i) (h2 : i ≤ g.ms.length) {m : Mb} {said : List Ms} (hm : InGr g.ms.length m) (hx : Next k (g.at_ i).1 (m, said)) : FewG (k + 1) (g.acts i m said) := by
  obtain ⟨hp, hi, he⟩ := ok.at_ h1 h2
  have hk := h.at_ h1 h2
  unfold Gr.acts
  split
  · refine h.up.set ⟨hx.few, save_few hk.disk hp hm hx.few.fair hx.cheap⟩ fun x hx2 => ?_
    rcases List.mem_append.1 hx2 with q | q
    · exact (h.net x q).up
    · exact hx.says x q
  · exact h.up.anew (hk.up.again hp)
theorem take (h : FewG k g) (j : Nat) : FewG k (g.take j) := ⟨h.all, fun x hx => h.net x (List.mem_of_mem_eraseIdx hx)⟩
theorem msg (h : FewG k g) {j : Nat} (hj : j < g.net.length) : FewM k (g.msg j) := by
  unfold Gr.msg
  rw [List.getD_eq_getElem?_getD, List.getElem?_eq_getElem hj]
  exact h.net _ (List.getElem_mem hj)
theorem crash (h : FewG k g) (ok : GrOk g) {i : Int} (h1 : 1 ≤ i) (h2 : i ≤ g.ms.length) (keep : Int) : FewG k (g.crash i keep) := by
  obtain ⟨hp, _, _⟩ := ok.at_ h1 h2
  unfold Gr.crash
  rw [hp.crash0 keep]
  exact h.anew ((h.at_ h1 h2).again hp)
theorem hears (h : FewG k g) (ok : GrOk g) (hk : k < 64) {x : Ms} (hx : MsOk g.ms.length x) (fx : FewM k x) : FewG (k + 1) (g.hears x) := by
  obtain ⟨hp, hi, he⟩ := ok.at_ hx.dst.1 hx.dst.2
  exact h.acts ok hx.dst.1 hx.dst.2 (hp.inGr.hear hx).1 ((h.at_ hx.dst.1 hx.dst.2).few.hear hp.mb fx hk)
theorem torn (h : FewG k g) (ok : GrOk g) (hk : k < 64) {x : Ms} (hx : MsOk g.ms.length x) (fx : FewM k x) (keep : Int) : FewG (k + 1) (g.torn x keep) := by
  obtain ⟨hp, hi, he⟩ := ok.at_ hx.dst.1 hx.dst.2
  have hq := h.at_ hx.dst.1 hx.dst.2
  have hn := hq.few.hear hp.mb fx hk
  have hnf : Few (k + 1) ((g.at_ x.dst).1.hear x).1 := hn.few
  have hnc : Cheap (g.at_ x.dst).1.log ((g.at_ x.dst).1.hear x).1.log := hn.cheap
  clear hn
  have hm := (hp.inGr.hear hx).1
  unfold Gr.torn
  generalize ((g.at_ x.dst).1.hear x).2 = said at *
  generalize ((g.at_ x.dst).1.hear x).1 = m at *
  have hsv := save_few hq.disk hp hm hnf.fair hnc
  refine h.up.anew ?_
  by_cases hs : saves m (g.at_ x.dst).2 = 0
  · have ht := crash_tornT hp.vt hp.sync hs keep
    have hl : (crashV (saved m (g.at_ x.dst).2) keep).1.length ≤ 830 * (k + 1) := by
      unfold crashV; simp only [List.length_take]; omega
    have he : crashV (saveV (g.at_ x.dst).2 m.term m.vote 0 0 m.log) keep = crashV (saved m (g.at_ x.dst).2) keep := rfl
    rw [he] at ht
    generalize crashV (saved m (g.at_ x.dst).2) keep = y at *
    have hh := hp.holds
    have f1 := hq.few.up
    have f2 := hnf
    refine ⟨.fresh ?_ ?_ ?_, hl⟩
    · rcases ht with e | ⟨e, _⟩
      · rw [e, hh]; exact f1.term
      · rw [e]; exact f2.term
    · rcases ht with e | ⟨_, _, ⟨j, _, e⟩ | ⟨j, _, e⟩⟩
      · rw [e, hh]; exact f1.len
      · rw [e, hh, List.length_take]; have : (g.at_ x.dst).1.log.length ≤ k + 1 := f1.len; simp only; omega
      · rw [e, List.length_take]; have : m.log.length ≤ k + 1 := f2.len; omega
    · rcases ht with e | ⟨_, _, ⟨j, _, e⟩ | ⟨j, _, e⟩⟩
      · rw [e, hh]; exact f1.fair
      · rw [e, hh]; exact fun e he => f1.fair e (List.mem_of_mem_take he)
      · rw [e]; exact fun e he => f2.fair e (List.mem_of_mem_take he)
  · have he : saved m (g.at_ x.dst).2 = (g.at_ x.dst).2 := saveV_no hs
    rw [he, crash_synced hp.vt hp.sync keep]
    exact hq.up.again hp
theorem propose (h : FewG k g) (ok : GrOk g) (hk : k < 64) {i : Int} (h1 : 1 ≤ i) (h2 : i ≤ g.ms.length) (a b : Int) : FewG (k + 1) (g.propose i a b).1 := by
  obtain ⟨hp, hi, he⟩ := ok.at_ h1 h2
  unfold Gr.propose
  split
  · exact h.up
  · split
    · exact h.acts ok h1 h2 (hp.inGr.propose (by omega) (by omega)).1 ((h.at_ h1 h2).few.propose hp.mb hk (by omega) (by omega))
    · exact h.up
theorem does (h : FewG k g) (ok : GrOk g) (hk : k < 64) (d a b c : Int) : FewG (k + 1) (g.does d a b c).1 := by
  unfold Gr.does
  split
  · exact h.up
  rename_i ht
  have ht : g.there d a = 0 := by
    by_cases q : g.there d a = 0
    · exact q
    · exact (ht q).elim
  split
  · obtain ⟨h1, h2⟩ := GrOk.there_member ht (by omega)
    obtain ⟨hp, hi, he⟩ := ok.at_ h1 h2
    exact h.acts ok h1 h2 hp.inGr.timeout.1 ((h.at_ h1 h2).few.timeout hp.mb hk)
  split
  · obtain ⟨h1, h2⟩ := GrOk.there_member ht (by omega)
    obtain ⟨hp, hi, he⟩ := ok.at_ h1 h2
    exact h.acts ok h1 h2 (m := (g.at_ a).1) hp.inGr ((h.at_ h1 h2).few.beat hp.mb)
  split
  · obtain ⟨h1, h2⟩ := GrOk.there_member ht (by omega)
    exact h.propose ok hk h1 h2 b c
  split
  · obtain ⟨h1, h2⟩ := GrOk.there_msg ht (by omega)
    exact (h.take _).hears (ok.take _) hk (ok.msg h2) (h.msg h2)
  split
  · exact (h.take _).up
  split
  · obtain ⟨h1, h2⟩ := GrOk.there_msg ht (by omega)
    refine ⟨h.up.all, fun x hx => ?_⟩
    rcases List.mem_append.1 hx with h3 | h3
    · exact (h.net x h3).up
    · rw [List.mem_singleton] at h3; subst h3; exact (h.msg h2).up
  split
  · obtain ⟨h1, h2⟩ := GrOk.there_member ht (by omega)
    exact (h.crash ok h1 h2 b).up
  · obtain ⟨h1, h2⟩ := GrOk.there_msg ht (by have := GrOk.there_kind ht; omega)
    exact (h.take _).torn (ok.take _) hk (ok.msg h2) (h.msg h2) b
/-- A message is lost. -/
theorem lose (h : FewG k g) : FewG k (g.does 4 0 0 0).1 := by
  unfold Gr.does
  split
  · exact h
  · rw [if_neg (by decide), if_neg (by decide), if_neg (by decide), if_neg (by decide), if_pos rfl]
    exact h.take _
/-- Room for what is to come. -/
theorem fit (h : FewG 40 g) (ok : GrOk g) {X : List En} {i : Int} (h1 : 1 ≤ i) (h2 : i ≤ g.ms.length) : Fit 44 44 X (g.at_ i) := by
  have q := h.at_ h1 h2
  have b1 : potB 44 (g.at_ i).1 ≤ 89 := by unfold potB; split <;> omega
  have b2 : potL 44 X (g.at_ i).1.log ≤ 45 := by unfold potL; split <;> omega
  have := q.disk
  have t1 := q.few.term
  have t2 := q.few.len
  exact ⟨by omega, by omega, by omega, q.few.fair⟩
end FewG
end Go.Proofs.YthjdbmfobmnnlaaGreat

/-
  A group behind few items, pure (C).
-/
namespace Go.Proofs.YthjdbmfobmnnlaaGreat
open Go.RowKit
set_option linter.unusedVariables false
/-! ### The newest log stays the newest -/
theorem rising_pre {X : List En} (r : rising X 0 = true) (j : Nat) : endT (X.take j) 0 ≤ endT X 0 := by
  by_cases hx : X.take j = []
  · rw [hx, endT_nil]
    by_cases h : X = []
    · rw [h]; exact Int.le_refl _
    · obtain ⟨e, he, ht⟩ := endT_mem h 0
      rw [ht]; exact (rising_le r e he).1
  · obtain ⟨e, he, ht⟩ := endT_mem hx 0
    rw [ht]
    exact (rising_le r e (List.mem_of_mem_take he)).2
/-- One whose log is the newest, and no term greater than this. -/
structure Nw (n : Nat) (f B : Int) (g : Gr) : Prop where
  all : ∀ k, 1 ≤ k → k ≤ (n : Int) → (g.mb k).term ≤ B
  new : ∀ k, 1 ≤ k → k ≤ (n : Int) → k ≠ f → newerB ((g.mb f).log.length : Int) (endT (g.mb f).log 0) ((g.mb k).log.length : Int) (endT (g.mb k).log 0) = true
  len : (g.mb f).log.length ≤ 41
  cand : (g.mb f).role = 1 → (g.mb f).log.length ≤ 40
theorem Nw.step {n : Nat} {f B c : Int} {Tc Nc : Nat} {g : Gr} {h : Gh} (s : Se n f c Tc Nc g h) (hne : g.net.length ≠ 0) (p : Nw n f B g) : Nw n f B (g.does 3 0 0 0).1 := by
  obtain ⟨h', ex, s', w, x, rest, hnet, hcase⟩ := s.step hne
  have hx : x ∈ g.net := by rw [hnet]; exact List.mem_cons_self
  have hm := s.ok.net x hx
  have nx := s.net x hx
  obtain ⟨oF, okF, eF, _⟩ := s.inv.here s.ok (i := f) s.f1.1 (by have := s.f1.2; have := s.many; omega)
  have okF : InGr g.ms.length (g.mb f) := okF
  rcases hcase with ⟨hk, hF, y, hn', td, hmb, hgr⟩ | ⟨hk, m', X', said, a, hd, hs2⟩
  · obtain ⟨hfrm, hdst⟩ := nx.out hk
    have hdn : x.dst ≤ (n : Int) := by have := hm.dst.2; have := s.many; omega
    have hxT : x.term ≤ B := by have h1 := nx.t2; have h2 := p.all f s.f1.1 s.f1.2; rw [hfrm] at h1; omega
    have hKT := p.all x.dst hm.dst.1 hdn
    refine ⟨fun k k1 k2 => ?_, fun k k1 k2 k3 => ?_, by rw [hF]; exact p.len, by rw [hF]; exact p.cand⟩
    · rw [hmb k k1]
      split
      · rw [td.term]; omega
      · exact p.all k k1 k2
    · rw [hF, hmb k k1]
      split
      · rename_i e
        rcases td.logs with q | q
        · rw [q]
          exact p.new x.dst hm.dst.1 hdn hdst
        · have hl := congrArg List.length q
          have hr := rising_pre okF.mb.rise ((g.mb x.dst).hear x).1.log.length
          rw [← q] at hr
          rw [List.length_take] at hl
          unfold newerB
          rw [decide_eq_true_eq]
          omega
      · exact p.new k k1 k2 k3
  · obtain ⟨hdst, hfrm⟩ := nx.inn hk
    have hxT : x.term ≤ B := Int.le_trans nx.t2 (p.all x.frm hm.frm.1 (by have := hm.frm.2; have := s.many; omega))
    have hfT := p.all f s.f1.1 s.f1.2
    have hlast := okF.mb.last
    have hmT : m'.term ≤ B := by
      rcases hd with ⟨_, _, q, _⟩ | ⟨_, q, _⟩ | ⟨_, _, _, q, _⟩
      · omega
      · omega
      · omega
    refine ⟨fun k k1 k2 => ?_, fun k k1 k2 k3 => ?_, ?_, ?_⟩
    · by_cases q : k = f
      · rw [q, a.mb]; exact hmT
      · rw [a.oth k k1 q]; exact p.all k k1 k2
    · rw [a.mb, a.oth k k1 k3]
      have hn := p.new k k1 k2 k3
      rcases hd with ⟨_, _, _, q⟩ | ⟨_, _, q, _⟩ | ⟨_, _, _, _, q⟩
      · rw [q]; exact hn
      · rw [q]; exact hn
      · rw [q, endT_snoc, List.length_append, List.length_singleton]
        unfold newerB at *
        rw [decide_eq_true_eq] at *
        simp only
        omega
    · rw [a.mb]
      rcases hd with ⟨_, _, _, q⟩ | ⟨_, _, q, _⟩ | ⟨_, r, _, _, q⟩
      · rw [q]; exact p.len
      · rw [q]; exact p.len
      · rw [q, List.length_append, List.length_singleton]; have := p.cand r; omega
    · rw [a.mb]
      rcases hd with ⟨_, r, _, q⟩ | ⟨_, _, q, r, _⟩ | ⟨_, _, r, _⟩
      · omega
      · rw [q, r]; exact p.cand
      · omega
/-! ### What changes nothing -/
theorem Calm.idle {n : Nat} {f : Int} {Tc Nc : Nat} {g : Gr} {h : Gh} (q : Calm n f Tc Nc g h) : g.acts f (g.mb f) [] = g := by
  have f2 : f ≤ (g.ms.length : Int) := by have := q.f1.2; have := q.many; omega
  have hp := q.ok.pair _ _ (at_get q.f1.1 f2)
  have fF := q.fit f q.f1.1 q.f1.2
  have hin : InGr g.ms.length (g.mb f) := hp.inGr
  obtain ⟨z1, z2⟩ := fF.save (m := g.mb f) (X' := (g.mb f).log) hp hin fF.term fF.len fF.fair (.inl ⟨rfl, rfl⟩) stay_cost
  have hh : (g.at_ f).2.2.2 = ((g.mb f).term, (g.mb f).vote, (g.mb f).log) := hp.holds
  have e1 : syncV (saved (g.mb f) (g.at_ f).2) = (g.at_ f).2 := by
    unfold saved
    rw [saveV_eq z1]
    have e2 : saveB (g.at_ f).2.2.2 (g.mb f).term (g.mb f).vote (g.mb f).log = [] := by
      unfold saveB
      rw [hh]
      simp only
      rw [if_pos (by simp), commonN_self, if_neg (Nat.lt_irrefl _), List.drop_length]
      rfl
    rw [e2, List.append_nil]
    have hs := hp.sync
    show ((g.at_ f).2.1, (g.at_ f).2.1.length, ((g.mb f).term, (g.mb f).vote, (g.mb f).log)) = _
    rw [← hh, ← hs]
  unfold Gr.acts
  rw [if_pos z1, e1, List.append_nil]
  have e3 : (g.set f ((g.mb f), (g.at_ f).2)).ms = g.ms := by
    show g.ms.set (f - 1).toNat (g.at_ f) = g.ms
    apply List.ext_getElem?
    intro i
    rw [List.getElem?_set]
    split
    · rename_i e
      rw [← e, at_get q.f1.1 f2, if_pos (by have := q.f1.1; omega)]
    · rfl
  rw [e3]
theorem Calm.timeout_idle {n : Nat} {f : Int} {Tc Nc : Nat} {g : Gr} {h : Gh} (q : Calm n f Tc Nc g h) (hr : (g.mb f).role = 2) : (g.does 0 f 0 0).1 = g := by
  have f2 : f ≤ (g.ms.length : Int) := by have := q.f1.2; have := q.many; omega
  have et : (g.at_ f).1.timeout = (g.mb f, []) := by
    show (g.mb f).timeout = _
    unfold Mb.timeout
    rw [if_pos (.inl hr)]
  unfold Gr.does
  rw [if_neg (by rw [there_m0 (.inl rfl) ⟨q.f1.1, f2⟩]; exact fun z => z rfl), if_pos rfl, et]
  exact q.idle
theorem Calm.beat_idle {n : Nat} {f : Int} {Tc Nc : Nat} {g : Gr} {h : Gh} (q : Calm n f Tc Nc g h) (hr : (g.mb f).role ≠ 2) : (g.does 1 f 0 0).1 = g := by
  have f2 : f ≤ (g.ms.length : Int) := by have := q.f1.2; have := q.many; omega
  have et : (g.at_ f).1.beat = (g.mb f, []) := by
    show (g.mb f).beat = _
    unfold Mb.beat
    rw [if_neg hr]
  unfold Gr.does
  rw [if_neg (by rw [there_m0 (.inr (.inl rfl)) ⟨q.f1.1, f2⟩]; exact fun z => z rfl), if_neg (by decide), if_pos rfl, et]
  exact q.idle
/-! ### A turn -/
def Gr.turn (f : Int) (g : Gr) : Gr := Gr.drain 3000 ((Gr.drain 3000 (g.does 0 f 0 0).1).does 1 f 0 0).1
/-- It leads, all of its log settled at all others. -/
def Lds (n : Nat) (f : Int) (g : Gr) : Prop := ∃ h, Top n f ((g.mb f).log.length : Int) 44 44 g h
/-- It doesn't lead yet, and nobody is ahead. -/
structure Mid (n : Nat) (f : Int) (g : Gr) (h : Gh) : Prop where
  calm : Calm n f 44 44 g h
  nw : Nw n f 41 g
  terms : ∀ k, 1 ≤ k → k ≤ (n : Int) → (g.mb k).term ≤ (g.mb f).term
  role : (g.mb f).role ≠ 2
theorem Top.beats {n : Nat} (h7 : n ≤ 7) {f c : Int} {g : Gr} {h : Gh} (t : Top n f c 44 44 g h) : Lds n f (Gr.drain 3000 (g.does 1 f 0 0).1) := by
  obtain ⟨h', ex, se, kp, hw⟩ := t.beat
  obtain ⟨h'', ex2, se2, hnet, k2⟩ := Se.drain (P := Kp n f (g.mb f).term (g.mb f).log) (fun g h s z p => p.step s z) 3000 _ h' se (by omega) kp
  refine ⟨h'', ?_⟩
  rw [k2.log]
  exact se2.top hnet k2.role
theorem Top.turn {n : Nat} (h7 : n ≤ 7) {f c : Int} {g : Gr} {h : Gh} (t : Top n f c 44 44 g h) : Lds n f (g.turn f) := by
  unfold Gr.turn
  rw [t.calm.timeout_idle t.role, Gr.drain_idle (g := g) (by rw [t.calm.net]; rfl)]
  exact t.beats h7
theorem Mid.turn {n : Nat} (h7 : n ≤ 7) {f : Int} {g : Gr} {h : Gh} (m : Mid n f g h) : (Gr.drain 3000 (g.does 0 f 0 0).1).net = [] ∧ Lds n f (g.turn f) := by
  have q := m.calm
  have hl := m.nw.len
  have ht := m.nw.all f q.f1.1 q.f1.2
  obtain ⟨h', ex, se, _, fr, hw⟩ := q.timeout m.role (by omega) (by omega) m.nw.new
  have hw2 : Wt n f (g.does 0 f 0 0).1 ≤ 3000 := by
    have : (4 * (g.mb f).log.length + 6) * n ≤ 170 * 7 := Nat.mul_le_mul (by omega) h7
    omega
  obtain ⟨h'', ex2, se2, hnet, fr2⟩ := Se.drain (P := Fre n f ((g.mb f).term + 1) (g.mb f).log) (fun g h s z p => p.step s z) 3000 _ h' se hw2 (fr m.terms)
  obtain ⟨l1, l2⟩ := fr2.leads se2 hnet
  exact ⟨hnet, (se2.top hnet l1).beats h7⟩
/-- When all that was said has come. -/
theorem Se.after {n : Nat} {f c : Int} {g : Gr} {h : Gh} (s : Se n f c 44 44 g h) (hnet : g.net = []) (nw : Nw n f 41 g) : (∃ h, Mid n f g h) ∨ ∃ h, Top n f c 44 44 g h := by
  by_cases r : (g.mb f).role = 2
  · exact .inr ⟨h, s.top hnet r⟩
  · refine .inl ⟨h, s.calm hnet, nw, fun k k1 k2 => ?_, r⟩
    rcases s.terms k k1 k2 with t | ⟨z, z1, _⟩
    · exact t
    · rw [hnet] at z1; cases z1
/-- The first turn. -/
theorem turn_first {n : Nat} (h7 : n ≤ 7) {f : Int} (f1 : 1 ≤ f ∧ f ≤ (n : Int)) {g : Gr} {h : Gh} (ok : GrOk g) (inv : Inv g h) (many : g.ms.length = n) (few : FewG 40 g) (hnet : g.net = [])
    (new : ∀ k, 1 ≤ k → k ≤ (n : Int) → k ≠ f → newerB ((g.mb f).log.length : Int) (endT (g.mb f).log 0) ((g.mb k).log.length : Int) (endT (g.mb k).log 0) = true) :
    (Gr.drain 3000 (g.does 0 f 0 0).1).net = [] ∧ ((∃ h, Mid n f (g.turn f) h) ∨ ∃ h c, Top n f c 44 44 (g.turn f) h) := by
  have q : Calm n f 44 44 g h := ⟨ok, inv, many, f1, by decide, by decide, fun k k1 k2 => few.fit ok k1 (by omega), hnet⟩
  have fw : ∀ k, 1 ≤ k → k ≤ (n : Int) → Few 40 (g.mb k) := fun k k1 k2 => (few.at_ k1 (by omega)).few
  have ff := fw f f1.1 f1.2
  have hlen := ff.len
  have htm := ff.term
  have nw : Nw n f 41 g := ⟨fun k k1 k2 => by have := (fw k k1 k2).term; omega, new, by omega, fun _ => hlen⟩
  unfold Gr.turn
  by_cases r : (g.mb f).role = 2
  · rw [q.timeout_idle r, Gr.drain_idle (by rw [hnet]; rfl)]
    refine ⟨hnet, ?_⟩
    have f2 : f ≤ (g.ms.length : Int) := by omega
    obtain ⟨h', ex, inv'⟩ := inv.does ok 1 f 0 0
    have ok' := ok.does 1 f 0 0
    obtain ⟨oF, okF, eF, _⟩ := inv.here ok (i := f) f1.1 f2
    have okF : InGr g.ms.length (g.mb f) := okF
    have oF : Mi g.ms.length h (g.mb f) := oF
    have eF : (g.mb f).id = f := eF
    rw [many] at okF oF
    have eg : (g.does 1 f 0 0).1 = g.acts f (g.mb f) (g.mb f).adds := by
      unfold Gr.does
      rw [if_neg (by rw [there_m0 (.inr (.inl rfl)) ⟨f1.1, f2⟩]; exact fun z => z rfl), if_neg (by decide), if_pos rfl]
      have e : (g.at_ f).1.beat = (g.mb f, (g.mb f).adds) := by
        show (g.mb f).beat = _
        unfold Mb.beat
        rw [if_pos r]
      rw [e]
    rw [eg] at ok' inv' ⊢
    have fF := q.fit f f1.1 f1.2
    obtain ⟨z1, z2, z3, z4, z5⟩ := ff.lead r
    rw [eF] at z4
    obtain ⟨a1, a2, a3, a4, a5⟩ := q.acts (m' := g.mb f) (said := (g.mb f).adds) (X' := (g.mb f).log) okF fF.term fF.len fF.fair (.inl ⟨rfl, rfl⟩) stay_cost
    have hset0 := okF.mb.set0
    obtain ⟨se, hwt⟩ := Se.begin (c := 0) (M := 170) ok' inv' a5 f1 q.nc q.tc (fun k z1 z2 => by
      rw [a2]
      by_cases z : k = f
      · rw [z]; exact a4
      · rw [(a3 k z1 z).2]; exact q.fit k z1 z2) (by rw [a2]; exact r) (by rw [a2]; exact z1) (by rw [a2]; exact z2) (by rw [a2]; exact z3) (by rw [a2]; exact z4)
      (fun k k1 k2 k3 => by
        rw [a2]
        have := oF.nxt r k k1 k2
        exact ⟨⟨z5 k k1 (by rw [okF.many]; exact k2) (by rw [eF]; exact k3), fun q => by omega⟩, this⟩) (by rw [a2]; exact a1) (by rw [a2]; omega)
      (fun k k1 k2 k3 => by
        rw [a2]
        have h1 := oF.nxt r k k1 k2
        have h2 := okF.mb.prAt k
        unfold mu
        split <;> omega)
    have nw' : Nw n f 41 (g.acts f (g.mb f) (g.mb f).adds) := by
      have hmb : ∀ k, 1 ≤ k → (g.acts f (g.mb f) (g.mb f).adds).mb k = g.mb k := fun k k1 => by
        by_cases z : k = f
        · rw [z, a2]
        · exact (a3 k k1 z).1
      refine ⟨fun k k1 k2 => by rw [hmb k k1]; exact nw.all k k1 k2, fun k k1 k2 k3 => by rw [hmb k k1, a2]; exact nw.new k k1 k2 k3, by rw [a2]; exact nw.len, by rw [a2]; exact nw.cand⟩
    obtain ⟨h'', ex2, se2, hn2, nw2⟩ := Se.drain (P := Nw n f 41) (fun g h s z p => p.step s z) 3000 _ h' se (by omega) nw'
    rcases se2.after hn2 nw2 with m | ⟨h, t⟩
    · exact .inl m
    · exact .inr ⟨h, 0, t⟩
  · obtain ⟨h', ex, se, ⟨b1, b2, b3, b4⟩, _, hw⟩ := q.timeout r (by omega) (by omega) new
    have hw2 : Wt n f (g.does 0 f 0 0).1 ≤ 3000 := by
      have : (4 * (g.mb f).log.length + 6) * n ≤ 166 * 7 := Nat.mul_le_mul (by omega) h7
      omega
    have hb0 : endT (g.mb f).log 0 ≤ (g.mb f).term := by
      obtain ⟨_, okF, _, _⟩ := inv.here ok (i := f) f1.1 (by omega)
      exact okF.mb.last
    have nw' : Nw n f 41 (g.does 0 f 0 0).1 := by
      refine ⟨fun k k1 k2 => ?_, fun k k1 k2 k3 => ?_, ?_, fun r1 => ?_⟩
      · by_cases z : k = f
        · rw [z, b1]; omega
        · rw [b3 k k1 z]; exact nw.all k k1 k2
      · rw [b3 k k1 k3]
        have hn := new k k1 k2 k3
        rcases b4 with ⟨_, e⟩ | ⟨_, e⟩
        · rw [e]; exact hn
        · rw [e, endT_snoc, List.length_append, List.length_singleton]
          unfold newerB at *
          rw [decide_eq_true_eq] at *
          simp only
          omega
      · rcases b4 with ⟨_, e⟩ | ⟨_, e⟩
        · rw [e]; omega
        · rw [e, List.length_append, List.length_singleton]; omega
      · rcases b4 with e | e
        · rw [e.2]; exact hlen
        · rw [e.1] at r1; exact absurd r1 (by decide)
    obtain ⟨h'', ex2, se2, hn2, nw2⟩ := Se.drain (P := Nw n f 41) (fun g h s z p => p.step s z) 3000 _ h' se hw2 nw'
    refine ⟨hn2, ?_⟩
    rcases se2.after hn2 nw2 with ⟨h, m⟩ | ⟨h, t⟩
    · rw [m.calm.beat_idle m.role, Gr.drain_idle (by rw [m.calm.net]; rfl)]
      exact .inl ⟨h, m⟩
    · obtain ⟨h, t⟩ := t.beats h7
      exact .inr ⟨h, _, t⟩
/-- How it stands behind so many turns. -/
def Cyc (n : Nat) (f : Int) (k : Nat) (g : Gr) : Prop :=
  (k = 0 ∧ GrOk g ∧ (∃ h, Inv g h) ∧ g.ms.length = n ∧ FewG 40 g ∧ g.net = [] ∧ ∀ k, 1 ≤ k → k ≤ (n : Int) → k ≠ f → newerB ((g.mb f).log.length : Int) (endT (g.mb f).log 0) ((g.mb k).log.length : Int) (endT (g.mb k).log 0) = true) ∨
  (k = 1 ∧ ((∃ h, Mid n f g h) ∨ ∃ h c, Top n f c 44 44 g h)) ∨ (2 ≤ k ∧ Lds n f g)
theorem Cyc.here {n : Nat} {f : Int} {k : Nat} {g : Gr} (c : Cyc n f k g) : GrOk g ∧ g.ms.length = n ∧ g.net = [] := by
  rcases c with ⟨_, h1, _, h2, _, h3, _⟩ | ⟨_, ⟨h, m⟩ | ⟨h, c, t⟩⟩ | ⟨_, h, t⟩
  · exact ⟨h1, h2, h3⟩
  · exact ⟨m.calm.ok, m.calm.many, m.calm.net⟩
  · exact ⟨t.calm.ok, t.calm.many, t.calm.net⟩
  · exact ⟨t.calm.ok, t.calm.many, t.calm.net⟩
theorem Top.mid {n : Nat} {f c : Int} {g : Gr} {h : Gh} (t : Top n f c 44 44 g h) : (Gr.drain 3000 (g.does 0 f 0 0).1).net = [] := by
  rw [t.calm.timeout_idle t.role, Gr.drain_idle (by rw [t.calm.net]; rfl)]
  exact t.calm.net
theorem Cyc.next {n : Nat} (h7 : n ≤ 7) {f : Int} (f1 : 1 ≤ f ∧ f ≤ (n : Int)) {k : Nat} {g : Gr} (c : Cyc n f k g) : (Gr.drain 3000 (g.does 0 f 0 0).1).net = [] ∧ Cyc n f (k + 1) (g.turn f) := by
  rcases c with ⟨rfl, h1, ⟨h, i⟩, h2, h4, h3, h5⟩ | ⟨rfl, ⟨h, m⟩ | ⟨h, c, t⟩⟩ | ⟨hk, h, t⟩
  · obtain ⟨a, b⟩ := turn_first h7 f1 h1 i h2 h4 h3 h5
    exact ⟨a, .inr (.inl ⟨rfl, b⟩)⟩
  · obtain ⟨a, b⟩ := m.turn h7
    exact ⟨a, .inr (.inr ⟨Nat.le_refl _, b⟩)⟩
  · exact ⟨t.mid, .inr (.inr ⟨Nat.le_refl _, t.turn h7⟩)⟩
  · exact ⟨t.mid, .inr (.inr ⟨by omega, t.turn h7⟩)⟩
theorem Cyc.end_ {n : Nat} {f : Int} {k : Nat} {g : Gr} (c : Cyc n f k g) (hk : 2 ≤ k) : (g.mb f).role = 2 ∧ ∀ k, 1 ≤ k → k ≤ (n : Int) → (g.mb k).log = (g.mb f).log ∧ (g.mb k).log.take (g.mb k).settled.toNat = (g.mb f).log := by
  rcases c with ⟨e, _⟩ | ⟨e, _⟩ | ⟨_, h, tp⟩
  · omega
  · omega
  refine ⟨tp.role, fun k k1 k3 => ?_⟩
  have hlk := tp.rest.log k k1 k3
  refine ⟨hlk, ?_⟩
  have hs : (g.mb k).settled.toNat = (g.mb f).log.length := by
    by_cases z : k = f
    · rw [z, tp.rest.lead]; omega
    · have := tp.rest.set k k1 k3 z
      omega
  rw [hs, hlk, List.take_length]
end Go.Proofs.YthjdbmfobmnnlaaGreat
