/-
  A group in plain terms.
-/
import Derived.Test.YtnljdkglncmfaaaGreatBe
import Derived.Test.YtnljdkglncmfaaaGreatBl
import Derived.Test.YtnljdkglncmfaaaGreatEntriesO
namespace Go.Proofs.YtnljdkglncmfaaaGreat
open Go.RowKit
set_option linter.unusedVariables false
/-! ### A crash of what was saved and not synced -/
def TornT (h : St) (t v : Int) (l : List En) (s : St) : Prop := s.1 = t ∧ s.2.1 = v ∧ ((∃ k, commonN h.2.2 l ≤ k ∧ s.2.2 = h.2.2.take k) ∨ (∃ k, commonN h.2.2 l ≤ k ∧ s.2.2 = l.take k))
theorem entRecs_tornT {h : St} {t v : Int} {l : List En} (hm : mayL 0 0 l = true) (hf : ∀ e ∈ l, EnFair e) : ∀ (m i : Nat), i + m = l.length → commonN h.2.2 l ≤ i → ∀ X Y : List UInt8, entRecs i (l.drop i) = X ++ Y →
    TornT h t v l (readS X (t, v, l.take i)).1
  | 0, i, hi, hc, X, Y, hX => by
    rw [List.drop_of_length_le (by omega)] at hX
    have : X = [] := by
      cases X with
      | nil => rfl
      | cons x X => simp [entRecs] at hX
    subst this
    rw [readS_nil]
    exact ⟨rfl, rfl, .inr ⟨i, hc, rfl⟩⟩
  | m + 1, i, hi, hc, X, Y, hX => by
    have hil : i < l.length := by omega
    have hr := ent_rec hm hil (hf _ (List.getElem_mem hil))
    rw [List.drop_eq_getElem_cons hil, entRecs] at hX
    rcases List.append_eq_append_iff.1 hX with ⟨Z, h1, h2⟩ | ⟨Z, h1, h2⟩
    · rw [h1, rec_read hr (ent_step hm hil t v)]
      exact entRecs_tornT hm hf m (i + 1) (by omega) (by omega) Z Y h2
    · by_cases hZ : Z = []
      · subst hZ
        rw [List.append_nil] at h1
        have := rec_read hr (ent_step hm hil t v) []
        rw [List.append_nil, h1, readS_nil] at this
        rw [this]
        exact ⟨rfl, rfl, .inr ⟨i + 1, by omega, rfl⟩⟩
      · rw [rec_torn hr h1 (List.length_pos_iff.2 hZ)]
        exact ⟨rfl, rfl, .inr ⟨i, hc, rfl⟩⟩
theorem save_tornT {h : St} {t v : Int} {l : List En} (ok : SaveOk h t v l) {X Y : List UInt8} (hX : saveB h t v l = X ++ Y) : (readS X h).1 = h ∨ TornT h t v l (readS X h).1 := by
  obtain ⟨c1, c2, c3⟩ := commonN_spec h.2.2 l
  have h64 := (mayL_true ok.held.2).2.2.2.2.2.1
  have tail : ∀ X Y : List UInt8, (if commonN h.2.2 l < h.2.2.length then recB 3 [((commonN h.2.2 l : Nat) : Int)] else []) ++ entRecs (commonN h.2.2 l) (l.drop (commonN h.2.2 l)) = X ++ Y → TornT h t v l (readS X (t, v, h.2.2)).1 := by
    intro X Y hX
    have whole : TornT h t v l (t, v, h.2.2) := ⟨rfl, rfl, .inl ⟨h.2.2.length, c1, by rw [List.take_length]⟩⟩
    by_cases hlt : commonN h.2.2 l < h.2.2.length
    · rw [if_pos hlt] at hX
      have hr := left_rec (n := commonN h.2.2 l) (by omega)
      have hs := left_step (s := (t, v, h.2.2)) c1
      simp only at hs
      rw [c3] at hs
      rcases List.append_eq_append_iff.1 hX with ⟨Z, h1, h2⟩ | ⟨Z, h1, h2⟩
      · rw [h1, rec_read hr hs]
        exact entRecs_tornT (h := h) ok.log ok.fair (l.length - commonN h.2.2 l) (commonN h.2.2 l) (by omega) (Nat.le_refl _) Z Y h2
      · by_cases hZ : Z = []
        · subst hZ
          rw [List.append_nil] at h1
          have := rec_read hr hs []
          rw [List.append_nil, h1, readS_nil] at this
          rw [this]
          exact ⟨rfl, rfl, .inr ⟨commonN h.2.2 l, Nat.le_refl _, rfl⟩⟩
        · rw [rec_torn hr h1 (List.length_pos_iff.2 hZ)]
          exact whole
    · rw [if_neg hlt, List.nil_append] at hX
      have e : h.2.2 = l.take (commonN h.2.2 l) := by rw [← c3, List.take_of_length_le (by omega)]
      have := entRecs_tornT (h := h) (t := t) (v := v) ok.log ok.fair (l.length - commonN h.2.2 l) (commonN h.2.2 l) (by omega) (Nat.le_refl _) X Y hX
      rwa [← e] at this
  unfold saveB at hX
  by_cases hb : h.1 = t ∧ h.2.1 = v
  · rw [if_pos hb, List.nil_append] at hX
    have e : h = (t, v, h.2.2) := by rw [← hb.1, ← hb.2]
    have := tail X Y hX
    rw [← e] at this
    exact .inr this
  · rw [if_neg hb] at hX
    have hr := ballot_rec ok.vote
    have hs := ballot_step ok.vote h
    rcases List.append_eq_append_iff.1 hX with ⟨Z, h1, h2⟩ | ⟨Z, h1, h2⟩
    · rw [h1, rec_read hr hs]
      exact .inr (tail Z Y h2)
    · by_cases hZ : Z = []
      · subst hZ
        rw [List.append_nil] at h1
        have := rec_read hr hs []
        rw [List.append_nil, h1, readS_nil] at this
        rw [this]
        exact .inr ⟨rfl, rfl, .inl ⟨h.2.2.length, c1, by rw [List.take_length]⟩⟩
      · rw [rec_torn hr h1 (List.length_pos_iff.2 hZ)]
        exact .inl rfl
theorem crash_tornT {x : Vt} (hx : VtOk x) (hs : x.2.1 = x.1.length) {t v b bt : Int} {l : List En} (h : saveE x t v b bt l = 0) (k : Int) : (crashV (saveV x t v b bt l) k).2.2 = x.2.2 ∨ TornT x.2.2 t v l (crashV (saveV x t v b bt l) k).2.2 := by
  have ok := save_ok hx h
  have hk := saveV_ok hx t v b bt l
  have hn := crashN_le hk.sync k
  rw [saveV_eq h] at hn ⊢
  simp only at hn
  unfold crashV
  simp only
  generalize crashN (x.1 ++ saveB x.2.2 t v l, x.2.1, (t, v, l)) k = m at hn ⊢
  rw [List.take_append, List.take_of_length_le (show x.1.length ≤ m by omega)]
  unfold readV
  rw [readS_append _ x.1 _ st0 (Nat.le_refl _) (by have := hx.whole; unfold readV at this; rw [this])]
  have hw := hx.whole
  unfold readV at hw
  simp only [hw]
  exact save_tornT ok (List.take_append_drop (m - x.1.length) _).symm
theorem crash_sync {x : Vt} (k : Int) : (crashV x k).2.1 = (crashV x k).1.length := by
  unfold crashV
  simp only
  have h1 := readV_le (x.1.take (crashN x k))
  rw [List.length_take] at h1 ⊢
  omega
/-! ### A group -/
/-- A group: each member and its disk, and what is on its way. -/
structure Gr where
  ms : List (Mb × Vt)
  net : List Ms
def msDef : Ms := ⟨0, 0, 0, 0, 0, 0, 0, false, []⟩
def pDef : Mb × Vt := (newMb 1 1 0 0 [], vt0)
/-- A member that begins anew from its disk. -/
def fresh (id : Int) (n : Nat) (x : Vt) : Mb := newMb id n x.2.2.1 x.2.2.2.1 x.2.2.2.2
def saves (m : Mb) (x : Vt) : Int := saveE x m.term m.vote 0 0 m.log
def saved (m : Mb) (x : Vt) : Vt := saveV x m.term m.vote 0 0 m.log
namespace Gr
def at_ (g : Gr) (i : Int) : Mb × Vt := g.ms.getD (i - 1).toNat pDef
def set (g : Gr) (i : Int) (p : Mb × Vt) : Gr := ⟨g.ms.set (i - 1).toNat p, g.net⟩
def anew (g : Gr) (i : Int) (x : Vt) : Gr := g.set i (fresh i g.ms.length x, x)
/-- What a member says is let go when it is on its disk what it has. -/
def acts (g : Gr) (i : Int) (m : Mb) (said : List Ms) : Gr :=
  if saves m (g.at_ i).2 = 0 then ⟨(g.set i (m, syncV (saved m (g.at_ i).2))).ms, g.net ++ said⟩ else g.anew i (g.at_ i).2
def crash (g : Gr) (i keep : Int) : Gr := g.anew i (crashV (g.at_ i).2 keep)
def msg (g : Gr) (k : Nat) : Ms := g.net.getD k msDef
def take (g : Gr) (k : Nat) : Gr := ⟨g.ms, g.net.eraseIdx k⟩
def hears (g : Gr) (x : Ms) : Gr := g.acts x.dst ((g.at_ x.dst).1.hear x).1 ((g.at_ x.dst).1.hear x).2
def torn (g : Gr) (x : Ms) (keep : Int) : Gr := g.anew x.dst (crashV (saved ((g.at_ x.dst).1.hear x).1 (g.at_ x.dst).2) keep)
def cmd (a b : Int) : Cm := (0, 0, 0, a, b, 0)
def propose (g : Gr) (i a b : Int) : Gr × Int :=
  if min a b < 0 ∨ 1073741824 < max a b then (g, 1) else
    if ((g.at_ i).1.propose (cmd a b)).2.2.2 = 0 then (g.acts i ((g.at_ i).1.propose (cmd a b)).1 ((g.at_ i).1.propose (cmd a b)).2.2.1, 0) else (g, ((g.at_ i).1.propose (cmd a b)).2.2.2)
/-- Is there what an item is about? -/
def there (g : Gr) (k a : Int) : Int :=
  if k = 0 ∨ k = 1 ∨ k = 2 ∨ k = 6 then (if a < 1 ∨ (g.ms.length : Int) < a then 5 else 0) else
    if k = 3 ∨ k = 4 ∨ k = 5 ∨ k = 7 then (if a < 0 ∨ (g.net.length : Int) ≤ a then 5 else 0) else 1
/-- An item is done. -/
def does (g : Gr) (k a b c : Int) : Gr × Int :=
  if g.there k a ≠ 0 then (g, g.there k a) else
    if k = 0 then (g.acts a (g.at_ a).1.timeout.1 (g.at_ a).1.timeout.2, 0) else
      if k = 1 then (g.acts a (g.at_ a).1.beat.1 (g.at_ a).1.beat.2, 0) else
        if k = 2 then g.propose a b c else
          if k = 3 then ((g.take a.toNat).hears (g.msg a.toNat), 0) else
            if k = 4 then (g.take a.toNat, 0) else
              if k = 5 then (⟨g.ms, g.net ++ [g.msg a.toNat]⟩, 0) else
                if k = 6 then (g.crash a b, 0) else ((g.take a.toNat).torn (g.msg a.toNat) b, 0)
end Gr
/-- So many members that know nothing. -/
def newGr (n : Nat) : Gr := ⟨(List.range n).map fun (i : Nat) => (newMb ((i : Int) + 1) n 0 0 [], vt0), []⟩
/-! ### What holds of each group that there is -/
/-- A message that a member of so many says. -/
structure MsOk (n : Nat) (x : Ms) : Prop where
  kind : 0 ≤ x.kind ∧ x.kind ≤ 3
  frm : 1 ≤ x.frm ∧ x.frm ≤ n
  dst : 1 ≤ x.dst ∧ x.dst ≤ n
  index : -1 ≤ x.index ∧ x.index ≤ 64
  len : x.ents.length ≤ 64
  wf : ∀ e ∈ x.ents, EnWf e
structure PairOk (n i : Nat) (p : Mb × Vt) : Prop where
  mb : MbOk p.1
  id : p.1.id = (i : Int) + 1
  many : p.1.prog.length = n
  wf : ∀ e ∈ p.1.log, EnWf e
  vt : VtOk p.2
  le : p.2.1.length ≤ 65536
  sync : p.2.2.1 = p.2.1.length
  holds : p.2.2.2 = (p.1.term, p.1.vote, p.1.log)
structure GrOk (g : Gr) : Prop where
  n1 : 1 ≤ g.ms.length
  n16 : g.ms.length ≤ 16
  pair : ∀ i p, g.ms[i]? = some p → PairOk g.ms.length i p
  net : ∀ x ∈ g.net, MsOk g.ms.length x
/-! ### What is said may be said -/
theorem toAll_mem {id : Int} {f : Int → Ms} {n : Nat} {x : Ms} (h : x ∈ Mb.toAll id f n) : ∃ k : Nat, k < n ∧ (k : Int) + 1 ≠ id ∧ x = f ((k : Int) + 1) := by
  induction n with
  | zero => cases h
  | succ n ih =>
    rw [Mb.toAll] at h
    rcases List.mem_append.1 h with h1 | h1
    · obtain ⟨k, h2, h3⟩ := ih h1
      exact ⟨k, by omega, h3⟩
    · split at h1
      · cases h1
      · rename_i hne
        rw [List.mem_singleton] at h1
        exact ⟨n, by omega, hne, h1⟩
theorem fromL_mem {es : List En} {i most : Int} {e : En} (h : e ∈ fromL 0 es i most) : e ∈ es := by
  unfold fromL at h
  split at h
  · cases h
  · exact List.mem_of_mem_drop (List.mem_of_mem_take h)
theorem fromL_len (es : List En) (i : Int) : (fromL 0 es i 8).length ≤ 8 := by
  unfold fromL
  split
  · exact Nat.zero_le _
  · rw [List.length_take]; exact Nat.min_le_left _ _
/-- A member of a group of so many, and its entries. -/
structure InGr (n : Nat) (m : Mb) : Prop where
  mb : MbOk m
  many : m.prog.length = n
  wf : ∀ e ∈ m.log, EnWf e
theorem enWf_mk {e : En} (h0 : (Lit.int .i64 e.1).wf = true) (h1 : (Lit.int .i64 e.2.1).wf = true) (h2 : (Lit.int .i64 e.2.2.1).wf = true) (h3 : (Lit.int .i64 e.2.2.2.1).wf = true) (h4 : (Lit.int .i64 e.2.2.2.2.1).wf = true) (h5 : (Lit.int .i64 e.2.2.2.2.2.1).wf = true) (h6 : (Lit.int .i64 e.2.2.2.2.2.2).wf = true) : EnWf e := by
  intro n hn
  simp only [numsOf, List.mem_cons, List.not_mem_nil, or_false] at hn
  rcases hn with rfl | rfl | rfl | rfl | rfl | rfl | rfl | rfl
  · decide
  all_goals assumption
theorem wf64 {n : Int} (h0 : -9223372036854775808 ≤ n) (h1 : n ≤ 9223372036854775807) : (Lit.int .i64 n).wf = true := by
  simp only [Lit.wf, Bool.and_eq_true, decide_eq_true_eq]
  exact ⟨h0, h1⟩
theorem cmd_wf {t a b : Int} (ht : 0 ≤ t ∧ t ≤ 1073741824) (ha : 0 ≤ a ∧ a ≤ 1073741824) (hb : 0 ≤ b ∧ b ≤ 1073741824) : EnWf (t, Gr.cmd a b) :=
  enWf_mk (wf64 (by simp only; omega) (by simp only; omega)) rfl rfl rfl (wf64 (by simp only [Gr.cmd]; omega) (by simp only [Gr.cmd]; omega)) (wf64 (by simp only [Gr.cmd]; omega) (by simp only [Gr.cmd]; omega)) rfl
namespace InGr
variable {n : Nat} {m : Mb}
theorem addn (h : InGr n m) (k : Int) (hk : 1 ≤ k ∧ k ≤ n) : MsOk n (m.addn k) := by
  have h1 := h.mb.prAt k
  have h2 := h.mb.id1
  have h3 := h.mb.idn
  have h4 := h.many
  refine ⟨by simp [Mb.addn], ⟨h2, by show m.id ≤ _; omega⟩, hk, ⟨by show -1 ≤ (m.prAt k).2 - 1; omega, by show (m.prAt k).2 - 1 ≤ 64; omega⟩, ?_, ?_⟩
  · show (fromF 0 0 m.log (m.prAt k).2 8).length ≤ 64
    unfold fromF
    rw [fairL_yes h.mb.log]
    have := fromL_len m.log (m.prAt k).2
    simp only
    omega
  · intro e he
    have he : e ∈ fromF 0 0 m.log (m.prAt k).2 8 := he
    unfold fromF at he
    rw [fairL_yes h.mb.log] at he
    exact h.wf e (fromL_mem he)
theorem adds (h : InGr n m) : ∀ y ∈ m.adds, MsOk n y := by
  intro y hy
  obtain ⟨k, h1, h2, rfl⟩ := toAll_mem hy
  have := h.many
  exact h.addn _ (by omega)
theorem asks (h : InGr n m) : ∀ y ∈ m.asks, MsOk n y := by
  intro y hy
  obtain ⟨k, h1, h2, rfl⟩ := toAll_mem hy
  have h3 := h.many
  have h4 := h.mb.id1
  have h5 := h.mb.idn
  have h6 := h.mb.len64
  have h7 := h.mb.lastF
  refine ⟨by simp [Mb.ask], ⟨h4, by show m.id ≤ _; omega⟩, ⟨by show 1 ≤ (k : Int) + 1; omega, by show (k : Int) + 1 ≤ _; omega⟩, ?_, by simp [Mb.ask], fun e he => by cases he⟩
  show -1 ≤ (lastF 0 0 m.log).1 ∧ (lastF 0 0 m.log).1 ≤ 64
  rw [h7]
  simp only
  omega
theorem put (h : InGr n m) (ht : 1 ≤ m.term) {c : Cm} (hc : EnWf (m.term, c)) : InGr n (m.put c) := by
  refine ⟨h.mb.put ht c, ?_, ?_⟩
  · unfold Mb.put; split <;> exact h.many
  · unfold Mb.put
    split
    · exact h.wf
    · intro e he
      rcases List.mem_append.1 he with h1 | h1
      · exact h.wf e h1
      · rw [List.mem_singleton] at h1; subst h1; exact hc
theorem mark (h : InGr n m) : InGr n m.mark := ⟨h.mb.mark, by show (m.prog.set _ _).length = n; rw [List.length_set]; exact h.many, h.wf⟩
theorem settle (h : InGr n m) : InGr n m.settle := ⟨h.mb.settle, h.many, h.wf⟩
theorem zero (h : InGr n m) : EnWf (m.term, (0, 0, 0, 0, 0, 0)) := by
  have := mayV_true h.mb.ballot
  exact enWf_mk (wf64 (by simp only; omega) (by simp only; omega)) rfl rfl rfl rfl rfl rfl
theorem lead (h : InGr n m) (ht : 1 ≤ m.term) : InGr n m.lead := by
  have hc : InGr n m.clear := ⟨h.mb.clear ht, by show (m.prog.map _).length = n; rw [List.length_map]; exact h.many, h.wf⟩
  exact ((hc.put ht hc.zero).mark).settle
theorem stand (h : InGr n m) (ht : m.term < 1073741824) : InGr n m.stand := ⟨h.mb.stand ht, h.many, h.wf⟩
theorem timeout (h : InGr n m) : InGr n m.timeout.1 ∧ ∀ y ∈ m.timeout.2, MsOk n y := by
  have h1 := mayV_true h.mb.ballot
  unfold Mb.timeout
  split
  · exact ⟨h, fun y hy => by cases hy⟩
  · rename_i hn
    have hs := h.stand (by omega)
    split
    · have hl := hs.lead (by show 1 ≤ m.term + 1; omega)
      exact ⟨hl, hl.adds⟩
    · exact ⟨hs, hs.asks⟩
theorem beat (h : InGr n m) : ∀ y ∈ m.beat.2, MsOk n y := by
  unfold Mb.beat
  simp only
  split
  · exact h.adds
  · intro y hy; cases hy
theorem took (h : InGr n m) (ht : 1 ≤ m.term) {c : Cm} (hc : EnWf (m.term, c)) : InGr n (m.took c) := ((h.put ht hc).mark).settle
theorem propose (h : InGr n m) {a b : Int} (ha : 0 ≤ a ∧ a ≤ 1073741824) (hb : 0 ≤ b ∧ b ≤ 1073741824) : InGr n (m.propose (Gr.cmd a b)).1 ∧ ∀ y ∈ (m.propose (Gr.cmd a b)).2.2.1, MsOk n y := by
  have hv := mayV_true h.mb.ballot
  unfold Mb.propose
  split
  · exact ⟨h, fun y hy => by cases hy⟩
  · split
    · exact ⟨h, fun y hy => by cases hy⟩
    · rename_i h1 _
      have ht := h.mb.live (by omega)
      have hl := h.took ht (c := Gr.cmd a b) (cmd_wf (by omega) ha hb)
      exact ⟨hl, hl.adds⟩
theorem setPr (h : InGr n m) (k : Int) (p : Int × Int) (hp : 0 ≤ p.1 ∧ p.1 ≤ 64 ∧ 0 ≤ p.2 ∧ p.2 ≤ 65) : InGr n (m.setPr k p) := ⟨h.mb.setPr k p hp, by show (m.prog.set _ _).length = n; rw [List.length_set]; exact h.many, h.wf⟩
theorem reply (h : InGr n m) {y : Ms} {x : Ms} (hx : MsOk n x) (hk : 0 ≤ y.kind ∧ y.kind ≤ 3) (hf : y.frm = m.id) (hd : y.dst = x.frm) (hi : -1 ≤ y.index ∧ y.index ≤ 64) (he : y.ents = []) : MsOk n y := by
  have h4 := h.mb.id1
  have h5 := h.mb.idn
  have h6 := h.many
  have h7 := hx.frm
  exact ⟨hk, by omega, by omega, hi, by rw [he]; simp, fun e hm => by rw [he] at hm; cases hm⟩
theorem hear (h : InGr n m) {x : Ms} (hx : MsOk n x) : InGr n (m.hear x).1 ∧ ∀ y ∈ (m.hear x).2, MsOk n y := by
  have none : InGr n m ∧ ∀ y ∈ ([] : List Ms), MsOk n y := ⟨h, fun y hy => by cases hy⟩
  unfold Mb.hear
  split
  rotate_left 1
  · exact none
  rename_i hh
  unfold Mb.hears at hh
  rw [decide_eq_true_eq] at hh
  have hs : InGr n (m.seen x) := ⟨h.mb.seen x (by omega), by unfold Mb.seen; split <;> exact h.many, by unfold Mb.seen; split <;> exact h.wf⟩
  have hst : x.term ≤ (m.seen x).term := by
    unfold Mb.seen
    split
    · exact Int.le_refl _
    · omega
  have hfr : 1 ≤ x.frm ∧ x.frm ≤ 16 := by have := h.mb.n16; omega
  generalize m.seen x = s at *
  have none : InGr n s ∧ ∀ y ∈ ([] : List Ms), MsOk n y := ⟨hs, fun y hy => by cases hy⟩
  have one : ∀ {s' : Mb} {y : Ms}, InGr n s' → MsOk n y → InGr n s' ∧ ∀ z ∈ [y], MsOk n z := fun h1 h2 => ⟨h1, fun z hz => by rw [List.mem_singleton] at hz; subst hz; exact h2⟩
  have hlen := hs.mb.len64
  have hlf := hs.mb.lastF
  unfold Mb.acts
  split
  · exact one ⟨hs.mb.asked x, hs.many, hs.wf⟩ (hs.reply hx (by simp [Mb.say]) rfl rfl (by simp [Mb.say]) rfl)
  split
  · unfold Mb.voted
    split
    · exact none
    · rename_i hn
      have ht : 1 ≤ s.term := hs.mb.live (by omega)
      have hc : InGr n (s.counted x) := ⟨hs.mb.counted x hfr, hs.many, hs.wf⟩
      split
      · have hl := hc.lead ht
        exact ⟨hl, hl.adds⟩
      · exact ⟨hc, fun y hy => by cases hy⟩
  split
  · unfold Mb.add
    split
    · exact one hs (hs.reply hx (by simp [Mb.say]) rfl rfl (by simp [Mb.say]) rfl)
    split
    · exact none
    split
    · exact one ⟨hs.mb.follow, hs.many, hs.wf⟩ (hs.reply hx (by simp [Mb.say]) rfl rfl (by rw [hlf]; simp only; omega) rfl)
    · rename_i h1 h2 h3
      have he : (addF 0 0 s.log x.index x.lterm x.ents).2.2.2 = 0 := by omega
      obtain ⟨a1, a2, a3, a4, a5, a6, a7⟩ := addF_ok he
      have hok := hs.mb.add x hst
      unfold Mb.add at hok
      rw [if_neg h1, if_neg h2, if_neg h3] at hok
      refine one ⟨hok, hs.many, fun e hm => ?_⟩ (hs.reply hx (by simp [Mb.say]) rfl rfl ?_ rfl)
      · have hm : e ∈ (addF 0 0 s.log x.index x.lterm x.ents).2.2.1 := hm
        rw [a7] at hm
        rcases mergeL_mem hm with h4 | h4
        · exact hs.wf e h4
        · exact hx.wf e h4
      · have f := mergeL_facts s.log x.ents x.index.toNat (by omega)
        have := f.1
        show -1 ≤ x.index + (x.ents.length : Int) ∧ x.index + (x.ents.length : Int) ≤ 64
        omega
  · unfold Mb.added
    split
    · exact none
    split
    · have hb : InGr n (s.back x) := hs.setPr _ _ (by have := hs.mb.prAt x.frm; simp only; omega)
      exact one hb (hb.addn _ hx.frm)
    split
    · exact none
    rename_i h3
    rw [hlf] at h3 ⊢
    simp only at h3 ⊢
    have hm : InGr n (s.matched x) := (hs.setPr x.frm (max (s.prAt x.frm).1 x.index, max (s.prAt x.frm).1 x.index + 1) (by have := hs.mb.prAt x.frm; simp only; omega)).settle
    split
    · exact ⟨hm, fun y hy => by cases hy⟩
    · exact one hm (hm.addn _ hx.frm)
end InGr
end Go.Proofs.YtnljdkglncmfaaaGreat
