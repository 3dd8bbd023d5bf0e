/-
  Gp: several texts in one.
-/
import Derived.Test.YthjdbmfobmnnlaaGreatBe
import Derived.Test.YthjdbmfobmnnlaaGreatBl
import Derived.Test.YthjdbmfobmnnlaaGreatEntriesO
import Derived.Test.YthjdbmfobmnnlaaGreatBr
/-
  A group in plain terms.
-/
namespace Go.Proofs.YthjdbmfobmnnlaaGreat
open Go.RowKit
set_option linter.unusedVariables false
/-! ### A crash of what was saved and not synced -/
def TornT (h : St) (t v : Int) (l : List En) (s : St) : Prop := s.1 = t ∧ s.2.1 = v ∧ ((∃ k, commonN h.2.2 l ≤ k ∧ s.2.2 = h.2.2.take k) ∨ (∃ k, commonN h.2.2 l ≤ k ∧ s.2.2 = l.take k))
theorem entRecs_tornT {h : St} {t v : Int} {l : List En} (hm : mayL 0 0 l = true) (hf : ∀ e ∈ l, EnFair e) : ∀ (m i : Nat), i + m = l.length → commonN h.2.2 l ≤ i → ∀ X Y : List UInt8, entRecs i (l.drop i) = X ++ Y →
    TornT h t v l (readS X (t, v, l.take i)).1
  | 0, i, hi, hc, X, Y, hX => by
    rw [List.drop_of_length_le (by omega)] at hX
    have : X = [] := by
      cases X with
      | nil => rfl
      | cons x X => simp [entRecs] at hX
    subst this
    rw [readS_nil]
    exact ⟨rfl, rfl, .inr ⟨i, hc, rfl⟩⟩
  | m + 1, i, hi, hc, X, Y, hX => by
    have hil : i < l.length := by omega
    have hr := ent_rec hm hil (hf _ (List.getElem_mem hil))
    rw [List.drop_eq_getElem_cons hil, entRecs] at hX
    rcases List.append_eq_append_iff.1 hX with ⟨Z, h1, h2⟩ | ⟨Z, h1, h2⟩
    · rw [h1, rec_read hr (ent_step hm hil t v)]
      exact entRecs_tornT hm hf m (i + 1) (by omega) (by omega) Z Y h2
    · by_cases hZ : Z = []
      · subst hZ
        rw [List.append_nil] at h1
        have := rec_read hr (ent_step hm hil t v) []
        rw [List.append_nil, h1, readS_nil] at this
        rw [this]
        exact ⟨rfl, rfl, .inr ⟨i + 1, by omega, rfl⟩⟩
      · rw [rec_torn hr h1 (List.length_pos_iff.2 hZ)]
        exact ⟨rfl, rfl, .inr ⟨i, hc, rfl⟩⟩
theorem save_tornT {h : St} {t v : Int} {l : List En} (ok : SaveOk h t v l) {X Y : List UInt8} (hX : saveB h t v l = X ++ Y) : (readS X h).1 = h ∨ TornT h t v l (readS X h).1 := by
  obtain ⟨c1, c2, c3⟩ := commonN_spec h.2.2 l
  have h64 := (mayL_true ok.held.2).2.2.2.2.2.1
  have tail : ∀ X Y : List UInt8, (if commonN h.2.2 l < h.2.2.length then recB 3 [((commonN h.2.2 l : Nat) : Int)] else []) ++ entRecs (commonN h.2.2 l) (l.drop (commonN h.2.2 l)) = X ++ Y → TornT h t v l (readS X (t, v, h.2.2)).1 := by
    intro X Y hX
    have whole : TornT h t v l (t, v, h.2.2) := ⟨rfl, rfl, .inl ⟨h.2.2.length, c1, by rw [List.take_length]⟩⟩
    by_cases hlt : commonN h.2.2 l < h.2.2.length
    · rw [if_pos hlt] at hX
      have hr := left_rec (n := commonN h.2.2 l) (by omega)
      have hs := left_step (s := (t, v, h.2.2)) c1
      simp only at hs
      rw [c3] at hs
      rcases List.append_eq_append_iff.1 hX with ⟨Z, h1, h2⟩ | ⟨Z, h1, h2⟩
      · rw [h1, rec_read hr hs]
        exact entRecs_tornT (h := h) ok.log ok.fair (l.length - commonN h.2.2 l) (commonN h.2.2 l) (by omega) (Nat.le_refl _) Z Y h2
      · by_cases hZ : Z = []
        · subst hZ
          rw [List.append_nil] at h1
          have := rec_read hr hs []
          rw [List.append_nil, h1, readS_nil] at this
          rw [this]
          exact ⟨rfl, rfl, .inr ⟨commonN h.2.2 l, Nat.le_refl _, rfl⟩⟩
        · rw [rec_torn hr h1 (List.length_pos_iff.2 hZ)]
          exact whole
    · rw [if_neg hlt, List.nil_append] at hX
      have e : h.2.2 = l.take (commonN h.2.2 l) := by rw [← c3, List.take_of_length_le (by omega)]
      have := entRecs_tornT (h := h) (t := t) (v := v) ok.log ok.fair (l.length - commonN h.2.2 l) (commonN h.2.2 l) (by omega) (Nat.le_refl _) X Y hX
      rwa [← e] at this
  unfold saveB at hX
  by_cases hb : h.1 = t ∧ h.2.1 = v
  · rw [if_pos hb, List.nil_append] at hX
    have e : h = (t, v, h.2.2) := by rw [← hb.1, ← hb.2]
    have := tail X Y hX
    rw [← e] at this
    exact .inr this
  · rw [if_neg hb] at hX
    have hr := ballot_rec ok.vote
    have hs := ballot_step ok.vote h
    rcases List.append_eq_append_iff.1 hX with ⟨Z, h1, h2⟩ | ⟨Z, h1, h2⟩
    · rw [h1, rec_read hr hs]
      exact .inr (tail Z Y h2)
    · by_cases hZ : Z = []
      · subst hZ
        rw [List.append_nil] at h1
        have := rec_read hr hs []
        rw [List.append_nil, h1, readS_nil] at this
        rw [this]
        exact .inr ⟨rfl, rfl, .inl ⟨h.2.2.length, c1, by rw [List.take_length]⟩⟩
      · rw [rec_torn hr h1 (List.length_pos_iff.2 hZ)]
        exact .inl rfl
theorem crash_tornT {x : Vt} (hx : VtOk x) (hs : x.2.1 = x.1.length) {t v b bt : Int} {l : List En} (h : saveE x t v b bt l = 0) (k : Int) : (crashV (saveV x t v b bt l) k).2.2 = x.2.2 ∨ TornT x.2.2 t v l (crashV (saveV x t v b bt l) k).2.2 := by
  have ok := save_ok hx h
  have hk := saveV_ok hx t v b bt l
  have hn := crashN_le hk.sync k
  rw [saveV_eq h] at hn ⊢
  simp only at hn
  unfold crashV
  simp only
  generalize crashN (x.1 ++ saveB x.2.2 t v l, x.2.1, (t, v, l)) k = m at hn ⊢
  rw [List.take_append, List.take_of_length_le (show x.1.length ≤ m by omega)]
  unfold readV
  rw [readS_append _ x.1 _ st0 (Nat.le_refl _) (by have := hx.whole; unfold readV at this; rw [this])]
  have hw := hx.whole
  unfold readV at hw
  simp only [hw]
  exact save_tornT ok (List.take_append_drop (m - x.1.length) _).symm
theorem crash_sync {x : Vt} (k : Int) : (crashV x k).2.1 = (crashV x k).1.length := by
  unfold crashV
  simp only
  have h1 := readV_le (x.1.take (crashN x k))
  rw [List.length_take] at h1 ⊢
  omega
/-! ### A group -/
/-- A group: each member and its disk, and what is on its way. -/
structure Gr where
  ms : List (Mb × Vt)
  net : List Ms
def msDef : Ms := ⟨0, 0, 0, 0, 0, 0, 0, false, []⟩
def pDef : Mb × Vt := (newMb 1 1 0 0 [], vt0)
/-- A member that begins anew from its disk. -/
def fresh (id : Int) (n : Nat) (x : Vt) : Mb := newMb id n x.2.2.1 x.2.2.2.1 x.2.2.2.2
def saves (m : Mb) (x : Vt) : Int := saveE x m.term m.vote 0 0 m.log
def saved (m : Mb) (x : Vt) : Vt := saveV x m.term m.vote 0 0 m.log
namespace Gr
def at_ (g : Gr) (i : Int) : Mb × Vt := g.ms.getD (i - 1).toNat pDef
def set (g : Gr) (i : Int) (p : Mb × Vt) : Gr := ⟨g.ms.set (i - 1).toNat p, g.net⟩
def anew (g : Gr) (i : Int) (x : Vt) : Gr := g.set i (fresh i g.ms.length x, x)
/-- What a member says is let go when it is on its disk what it has. -/
def acts (g : Gr) (i : Int) (m : Mb) (said : List Ms) : Gr :=
  if saves m (g.at_ i).2 = 0 then ⟨(g.set i (m, syncV (saved m (g.at_ i).2))).ms, g.net ++ said⟩ else g.anew i (g.at_ i).2
def crash (g : Gr) (i keep : Int) : Gr := g.anew i (crashV (g.at_ i).2 keep)
def msg (g : Gr) (k : Nat) : Ms := g.net.getD k msDef
def take (g : Gr) (k : Nat) : Gr := ⟨g.ms, g.net.eraseIdx k⟩
def hears (g : Gr) (x : Ms) : Gr := g.acts x.dst ((g.at_ x.dst).1.hear x).1 ((g.at_ x.dst).1.hear x).2
def torn (g : Gr) (x : Ms) (keep : Int) : Gr := g.anew x.dst (crashV (saved ((g.at_ x.dst).1.hear x).1 (g.at_ x.dst).2) keep)
def cmd (a b : Int) : Cm := (0, 0, 0, a, b, 0)
def propose (g : Gr) (i a b : Int) : Gr × Int :=
  if min a b < 0 ∨ 1073741824 < max a b then (g, 1) else
    if ((g.at_ i).1.propose (cmd a b)).2.2.2 = 0 then (g.acts i ((g.at_ i).1.propose (cmd a b)).1 ((g.at_ i).1.propose (cmd a b)).2.2.1, 0) else (g, ((g.at_ i).1.propose (cmd a b)).2.2.2)
/-- Is there what an item is about? -/
def there (g : Gr) (k a : Int) : Int :=
  if k = 0 ∨ k = 1 ∨ k = 2 ∨ k = 6 then (if a < 1 ∨ (g.ms.length : Int) < a then 5 else 0) else
    if k = 3 ∨ k = 4 ∨ k = 5 ∨ k = 7 then (if a < 0 ∨ (g.net.length : Int) ≤ a then 5 else 0) else 1
/-- An item is done. -/
def does (g : Gr) (k a b c : Int) : Gr × Int :=
  if g.there k a ≠ 0 then (g, g.there k a) else
    if k = 0 then (g.acts a (g.at_ a).1.timeout.1 (g.at_ a).1.timeout.2, 0) else
      if k = 1 then (g.acts a (g.at_ a).1.beat.1 (g.at_ a).1.beat.2, 0) else
        if k = 2 then g.propose a b c else
          if k = 3 then ((g.take a.toNat).hears (g.msg a.toNat), 0) else
            if k = 4 then (g.take a.toNat, 0) else
              if k = 5 then (⟨g.ms, g.net ++ [g.msg a.toNat]⟩, 0) else
                if k = 6 then (g.crash a b, 0) else ((g.take a.toNat).torn (g.msg a.toNat) b, 0)
end Gr
/-- So many members that know nothing. -/
def newGr (n : Nat) : Gr := ⟨(List.range n).map fun (i : Nat) => (newMb ((i : Int) + 1) n 0 0 [], vt0), []⟩
/-! ### What holds of each group that there is -/
/-- A message that a member of so many says. -/
structure MsOk (n : Nat) (x : Ms) : Prop where
  kind : 0 ≤ x.kind ∧ x.kind ≤ 3
  frm : 1 ≤ x.frm ∧ x.frm ≤ n
  dst : 1 ≤ x.dst ∧ x.dst ≤ n
  index : -1 ≤ x.index ∧ x.index ≤ 64
  len : x.ents.length ≤ 64
  wf : ∀ e ∈ x.ents, EnWf e
structure PairOk (n i : Nat) (p : Mb × Vt) : Prop where
  mb : MbOk p.1
  id : p.1.id = (i : Int) + 1
  many : p.1.prog.length = n
  wf : ∀ e ∈ p.1.log, EnWf e
  vt : VtOk p.2
  le : p.2.1.length ≤ 65536
  sync : p.2.2.1 = p.2.1.length
  holds : p.2.2.2 = (p.1.term, p.1.vote, p.1.log)
structure GrOk (g : Gr) : Prop where
  n1 : 1 ≤ g.ms.length
  n16 : g.ms.length ≤ 16
  pair : ∀ i p, g.ms[i]? = some p → PairOk g.ms.length i p
  net : ∀ x ∈ g.net, MsOk g.ms.length x
/-! ### What is said may be said -/
theorem toAll_mem {id : Int} {f : Int → Ms} {n : Nat} {x : Ms} (h : x ∈ Mb.toAll id f n) : ∃ k : Nat, k < n ∧ (k : Int) + 1 ≠ id ∧ x = f ((k : Int) + 1) := by
  induction n with
  | zero => cases h
  | succ n ih =>
    rw [Mb.toAll] at h
    rcases List.mem_append.1 h with h1 | h1
    · obtain ⟨k, h2, h3⟩ := ih h1
      exact ⟨k, by omega, h3⟩
    · split at h1
      · cases h1
      · rename_i hne
        rw [List.mem_singleton] at h1
        exact ⟨n, by omega, hne, h1⟩
theorem fromL_mem {es : List En} {i most : Int} {e : En} (h : e ∈ fromL 0 es i most) : e ∈ es := by
  unfold fromL at h
  split at h
  · cases h
  · exact List.mem_of_mem_drop (List.mem_of_mem_take h)
theorem fromL_len (es : List En) (i : Int) : (fromL 0 es i 8).length ≤ 8 := by
  unfold fromL
  split
  · exact Nat.zero_le _
  · rw [List.length_take]; exact Nat.min_le_left _ _
/-- A member of a group of so many, and its entries. -/
structure InGr (n : Nat) (m : Mb) : Prop where
  mb : MbOk m
  many : m.prog.length = n
  wf : ∀ e ∈ m.log, EnWf e
theorem enWf_mk {e : En} (h0 : (Lit.int .i64 e.1).wf = true) (h1 : (Lit.int .i64 e.2.1).wf = true) (h2 : (Lit.int .i64 e.2.2.1).wf = true) (h3 : (Lit.int .i64 e.2.2.2.1).wf = true) (h4 : (Lit.int .i64 e.2.2.2.2.1).wf = true) (h5 : (Lit.int .i64 e.2.2.2.2.2.1).wf = true) (h6 : (Lit.int .i64 e.2.2.2.2.2.2).wf = true) : EnWf e := by
  intro n hn
  simp only [numsOf, List.mem_cons, List.not_mem_nil, or_false] at hn
  rcases hn with rfl | rfl | rfl | rfl | rfl | rfl | rfl | rfl
  · decide
  all_goals assumption
theorem wf64 {n : Int} (h0 : -9223372036854775808 ≤ n) (h1 : n ≤ 9223372036854775807) : (Lit.int .i64 n).wf = true := by
  simp only [Lit.wf, Bool.and_eq_true, decide_eq_true_eq]
  exact ⟨h0, h1⟩
theorem cmd_wf {t a b : Int} (ht : 0 ≤ t ∧ t ≤ 1073741824) (ha : 0 ≤ a ∧ a ≤ 1073741824) (hb : 0 ≤ b ∧ b ≤ 1073741824) : EnWf (t, Gr.cmd a b) :=
  enWf_mk (wf64 (by simp only; omega) (by simp only; omega)) rfl rfl rfl (wf64 (by simp only [Gr.cmd]; omega) (by simp only [Gr.cmd]; omega)) (wf64 (by simp only [Gr.cmd]; omega) (by simp only [Gr.cmd]; omega)) rfl
namespace InGr
variable {n : Nat} {m : Mb}
theorem addn (h : InGr n m) (k : Int) (hk : 1 ≤ k ∧ k ≤ n) : MsOk n (m.addn k) := by
  have h1 := h.mb.prAt k
  have h2 := h.mb.id1
  have h3 := h.mb.idn
  have h4 := h.many
  refine ⟨by simp [Mb.addn], ⟨h2, by show m.id ≤ _; omega⟩, hk, ⟨by show -1 ≤ (m.prAt k).2 - 1; omega, by show (m.prAt k).2 - 1 ≤ 64; omega⟩, ?_, ?_⟩
  · show (fromF 0 0 m.log (m.prAt k).2 8).length ≤ 64
    unfold fromF
    rw [fairL_yes h.mb.log]
    have := fromL_len m.log (m.prAt k).2
    simp only
    omega
  · intro e he
    have he : e ∈ fromF 0 0 m.log (m.prAt k).2 8 := he
    unfold fromF at he
    rw [fairL_yes h.mb.log] at he
    exact h.wf e (fromL_mem he)
theorem adds (h : InGr n m) : ∀ y ∈ m.adds, MsOk n y := by
  intro y hy
  obtain ⟨k, h1, h2, rfl⟩ := toAll_mem hy
  have := h.many
  exact h.addn _ (by omega)
theorem asks (h : InGr n m) : ∀ y ∈ m.asks, MsOk n y := by
  intro y hy
  obtain ⟨k, h1, h2, rfl⟩ := toAll_mem hy
  have h3 := h.many
  have h4 := h.mb.id1
  have h5 := h.mb.idn
  have h6 := h.mb.len64
  have h7 := h.mb.lastF
  refine ⟨by simp [Mb.ask], ⟨h4, by show m.id ≤ _; omega⟩, ⟨by show 1 ≤ (k : Int) + 1; omega, by show (k : Int) + 1 ≤ _; omega⟩, ?_, by simp [Mb.ask], fun e he => by cases he⟩
  show -1 ≤ (lastF 0 0 m.log).1 ∧ (lastF 0 0 m.log).1 ≤ 64
  rw [h7]
  simp only
  omega
theorem put (h : InGr n m) (ht : 1 ≤ m.term) {c : Cm} (hc : EnWf (m.term, c)) : InGr n (m.put c) := by
  refine ⟨h.mb.put ht c, ?_, ?_⟩
  · unfold Mb.put; split <;> exact h.many
  · unfold Mb.put
    split
    · exact h.wf
    · intro e he
      rcases List.mem_append.1 he with h1 | h1
      · exact h.wf e h1
      · rw [List.mem_singleton] at h1; subst h1; exact hc
theorem mark (h : InGr n m) : InGr n m.mark := ⟨h.mb.mark, by show (m.prog.set _ _).length = n; rw [List.length_set]; exact h.many, h.wf⟩
theorem settle (h : InGr n m) : InGr n m.settle := ⟨h.mb.settle, h.many, h.wf⟩
theorem zero (h : InGr n m) : EnWf (m.term, (0, 0, 0, 0, 0, 0)) := by
  have := mayV_true h.mb.ballot
  exact enWf_mk (wf64 (by simp only; omega) (by simp only; omega)) rfl rfl rfl rfl rfl rfl
theorem lead (h : InGr n m) (ht : 1 ≤ m.term) : InGr n m.lead := by
  have hc : InGr n m.clear := ⟨h.mb.clear ht, by show (m.prog.map _).length = n; rw [List.length_map]; exact h.many, h.wf⟩
  exact ((hc.put ht hc.zero).mark).settle
theorem stand (h : InGr n m) (ht : m.term < 1073741824) : InGr n m.stand := ⟨h.mb.stand ht, h.many, h.wf⟩
theorem timeout (h : InGr n m) : InGr n m.timeout.1 ∧ ∀ y ∈ m.timeout.2, MsOk n y := by
  have h1 := mayV_true h.mb.ballot
  unfold Mb.timeout
  split
  · exact ⟨h, fun y hy => by cases hy⟩
  · rename_i hn
    have hs := h.stand (by omega)
    split
    · have hl := hs.lead (by show 1 ≤ m.term + 1; omega)
      exact ⟨hl, hl.adds⟩
    · exact ⟨hs, hs.asks⟩
theorem beat (h : InGr n m) : ∀ y ∈ m.beat.2, MsOk n y := by
  unfold Mb.beat
  simp only
  split
  · exact h.adds
  · intro y hy; cases hy
theorem took (h : InGr n m) (ht : 1 ≤ m.term) {c : Cm} (hc : EnWf (m.term, c)) : InGr n (m.took c) := ((h.put ht hc).mark).settle
theorem propose (h : InGr n m) {a b : Int} (ha : 0 ≤ a ∧ a ≤ 1073741824) (hb : 0 ≤ b ∧ b ≤ 1073741824) : InGr n (m.propose (Gr.cmd a b)).1 ∧ ∀ y ∈ (m.propose (Gr.cmd a b)).2.2.1, MsOk n y := by
  have hv := mayV_true h.mb.ballot
  unfold Mb.propose
  split
  · exact ⟨h, fun y hy => by cases hy⟩
  · split
    · exact ⟨h, fun y hy => by cases hy⟩
    · rename_i h1 _
      have ht := h.mb.live (by omega)
      have hl := h.took ht (c := Gr.cmd a b) (cmd_wf (by omega) ha hb)
      exact ⟨hl, hl.adds⟩
theorem setPr (h : InGr n m) (k : Int) (p : Int × Int) (hp : 0 ≤ p.1 ∧ p.1 ≤ 64 ∧ 0 ≤ p.2 ∧ p.2 ≤ 65) : InGr n (m.setPr k p) := ⟨h.mb.setPr k p hp, by show (m.prog.set _ _).length = n; rw [List.length_set]; exact h.many, h.wf⟩
theorem reply (h : InGr n m) {y : Ms} {x : Ms} (hx : MsOk n x) (hk : 0 ≤ y.kind ∧ y.kind ≤ 3) (hf : y.frm = m.id) (hd : y.dst = x.frm) (hi : -1 ≤ y.index ∧ y.index ≤ 64) (he : y.ents = []) : MsOk n y := by
  have h4 := h.mb.id1
  have h5 := h.mb.idn
  have h6 := h.many
  have h7 := hx.frm
  exact ⟨hk, by omega, by omega, hi, by rw [he]; simp, fun e hm => by rw [he] at hm; cases hm⟩
theorem hear (h : InGr n m) {x : Ms} (hx : MsOk n x) : InGr n (m.hear x).1 ∧ ∀ y ∈ (m.hear x).2, MsOk n y := by
  have none : InGr n m ∧ ∀ y ∈ ([] : List Ms), MsOk n y := ⟨h, fun y hy => by cases hy⟩
  unfold Mb.hear
  split
  rotate_left 1
  · exact none
  rename_i hh
  unfold Mb.hears at hh
  rw [decide_eq_true_eq] at hh
  have hs : InGr n (m.seen x) := ⟨h.mb.seen x (by omega), by unfold Mb.seen; split <;> exact h.many, by unfold Mb.seen; split <;> exact h.wf⟩
  have hst : x.term ≤ (m.seen x).term := by
    unfold Mb.seen
    split
    · exact Int.le_refl _
    · omega
  have hfr : 1 ≤ x.frm ∧ x.frm ≤ 16 := by have := h.mb.n16; omega
  generalize m.seen x = s at *
  have none : InGr n s ∧ ∀ y ∈ ([] : List Ms), MsOk n y := ⟨hs, fun y hy => by cases hy⟩
  have one : ∀ {s' : Mb} {y : Ms}, InGr n s' → MsOk n y → InGr n s' ∧ ∀ z ∈ [y], MsOk n z := fun h1 h2 => ⟨h1, fun z hz => by rw [List.mem_singleton] at hz; subst hz; exact h2⟩
  have hlen := hs.mb.len64
  have hlf := hs.mb.lastF
  unfold Mb.acts
  split
  · exact one ⟨hs.mb.asked x, hs.many, hs.wf⟩ (hs.reply hx (by simp [Mb.say]) rfl rfl (by simp [Mb.say]) rfl)
  split
  · unfold Mb.voted
    split
    · exact none
    · rename_i hn
      have ht : 1 ≤ s.term := hs.mb.live (by omega)
      have hc : InGr n (s.counted x) := ⟨hs.mb.counted x hfr, hs.many, hs.wf⟩
      split
      · have hl := hc.lead ht
        exact ⟨hl, hl.adds⟩
      · exact ⟨hc, fun y hy => by cases hy⟩
  split
  · unfold Mb.add
    split
    · exact one hs (hs.reply hx (by simp [Mb.say]) rfl rfl (by simp [Mb.say]) rfl)
    split
    · exact none
    split
    · exact one ⟨hs.mb.follow, hs.many, hs.wf⟩ (hs.reply hx (by simp [Mb.say]) rfl rfl (by rw [hlf]; simp only; omega) rfl)
    · rename_i h1 h2 h3
      have he : (addF 0 0 s.log x.index x.lterm x.ents).2.2.2 = 0 := by omega
      obtain ⟨a1, a2, a3, a4, a5, a6, a7⟩ := addF_ok he
      have hok := hs.mb.add x hst
      unfold Mb.add at hok
      rw [if_neg h1, if_neg h2, if_neg h3] at hok
      refine one ⟨hok, hs.many, fun e hm => ?_⟩ (hs.reply hx (by simp [Mb.say]) rfl rfl ?_ rfl)
      · have hm : e ∈ (addF 0 0 s.log x.index x.lterm x.ents).2.2.1 := hm
        rw [a7] at hm
        rcases mergeL_mem hm with h4 | h4
        · exact hs.wf e h4
        · exact hx.wf e h4
      · have f := mergeL_facts s.log x.ents x.index.toNat (by omega)
        have := f.1
        show -1 ≤ x.index + (x.ents.length : Int) ∧ x.index + (x.ents.length : Int) ≤ 64
        omega
  · unfold Mb.added
    split
    · exact none
    split
    · have hb : InGr n (s.back x) := hs.setPr _ _ (by have := hs.mb.prAt x.frm; simp only; omega)
      exact one hb (hb.addn _ hx.frm)
    split
    · exact none
    rename_i h3
    rw [hlf] at h3 ⊢
    simp only at h3 ⊢
    have hm : InGr n (s.matched x) := (hs.setPr x.frm (max (s.prAt x.frm).1 x.index, max (s.prAt x.frm).1 x.index + 1) (by have := hs.mb.prAt x.frm; simp only; omega)).settle
    split
    · exact ⟨hm, fun y hy => by cases hy⟩
    · exact one hm (hm.addn _ hx.frm)
end InGr
end Go.Proofs.YthjdbmfobmnnlaaGreat

/-
  A member rises, in plain terms.
-/
namespace Go.Proofs.YthjdbmfobmnnlaaGreat
open Go.RowKit
set_option linter.unusedVariables false
/-- What becomes of a member when something happens to it. -/
def Mb.does (m : Mb) (k : Int) (x : Ms) (c : Cm) : Mb := if k = 0 then (m.hear x).1 else if k = 1 then m.timeout.1 else if k = 2 then m.beat.1 else (m.propose c).1
theorem MbOk.does {m : Mb} (h : MbOk m) (k : Int) (x : Ms) (c : Cm) : MbOk (m.does k x c) := by
  unfold Mb.does
  split
  · exact h.hear x
  · split
    · exact h.timeout
    · split
      · exact h
      · exact h.propose c
/-- A member rises: its term does not fall, nor what is settled; its vote stays within a term; a leader's log grows. -/
structure Rises (m m' : Mb) : Prop where
  term : m.term ≤ m'.term
  vote : m'.term = m.term → m.vote ≠ 0 → m'.vote = m.vote
  settled : m.settled ≤ m'.settled
  log : m.role = 2 → m'.role = 2 → m'.term = m.term → m.log.length ≤ m'.log.length ∧ m'.log.take m.log.length = m.log
  id : m'.id = m.id
  many : m'.prog.length = m.prog.length
theorem Rises.refl (m : Mb) : Rises m m := ⟨Int.le_refl _, fun _ _ => rfl, Int.le_refl _, fun _ _ _ => ⟨Nat.le_refl _, List.take_length⟩, rfl, rfl⟩
theorem put_facts (m : Mb) (c : Cm) : (m.put c).id = m.id ∧ (m.put c).role = m.role ∧ (m.put c).term = m.term ∧ (m.put c).vote = m.vote ∧ (m.put c).prog = m.prog ∧ (m.put c).settled = m.settled ∧ (m.log.length ≤ (m.put c).log.length ∧ (m.put c).log.take m.log.length = m.log) := by
  unfold Mb.put
  split
  · simp
  · simp
theorem settle_up {m : Mb} (h : MbOk m) : m.settled ≤ m.settle.settled := by
  show m.settled ≤ commitF 0 0 m.log _ m.term m.settled
  rcases commitF_mem h.log (m.prog.map (·.1)) m.term m.settled with h1 | h1 <;> omega
theorem lead_facts {m : Mb} (h : MbOk m) (ht : 1 ≤ m.term) : m.lead.id = m.id ∧ m.lead.term = m.term ∧ m.lead.vote = m.vote ∧ m.settled ≤ m.lead.settled ∧ m.lead.prog.length = m.prog.length := by
  obtain ⟨p1, p2, p3, p4, p5, p6, _⟩ := put_facts m.clear (0, 0, 0, 0, 0, 0)
  have hk := (((h.clear ht).put ht (0, 0, 0, 0, 0, 0))).mark
  refine ⟨p1, p3, p4, ?_, ?_⟩
  · have h1 := settle_up hk
    have h2 : ((m.clear.put (0, 0, 0, 0, 0, 0)).mark).settled = m.settled := p6
    rw [h2] at h1
    exact h1
  · show ((m.clear.put (0, 0, 0, 0, 0, 0)).prog.set _ _).length = _
    rw [List.length_set, p5]
    simp [Mb.clear]
theorem took_facts {m : Mb} (h : MbOk m) (ht : 1 ≤ m.term) (c : Cm) : Rises m (m.took c) := by
  obtain ⟨p1, p2, p3, p4, p5, p6, p7⟩ := put_facts m c
  have hk := (h.put ht c).mark
  refine ⟨?_, fun _ _ => p4, ?_, fun _ _ _ => p7, p1, ?_⟩
  · show m.term ≤ (m.put c).term
    rw [p3]
    exact Int.le_refl _
  · have h1 := settle_up hk
    have h2 : ((m.put c).mark).settled = m.settled := p6
    rw [h2] at h1
    exact h1
  · show ((m.put c).prog.set _ _).length = _
    rw [List.length_set, p5]
theorem rises_timeout {m : Mb} (h : MbOk m) : Rises m m.timeout.1 := by
  have h1 := mayV_true h.ballot
  unfold Mb.timeout
  split
  · exact .refl m
  · rename_i hn
    have hs := h.stand (by omega)
    split
    · obtain ⟨q1, q2, q3, q4, q5⟩ := lead_facts hs (by show 1 ≤ m.term + 1; omega)
      have e2 : m.stand.lead.term = m.term + 1 := q2
      have e4 : m.settled ≤ m.stand.lead.settled := q4
      exact ⟨by show m.term ≤ m.stand.lead.term; omega, fun e _ => by have : m.stand.lead.term = m.term := e; omega, e4, fun e _ _ => by omega, q1, q5⟩
    · have e2 : m.stand.term = m.term + 1 := rfl
      exact ⟨by show m.term ≤ m.stand.term; omega, fun e _ => by have : m.stand.term = m.term := e; omega, Int.le_refl _, fun e _ _ => by omega, rfl, rfl⟩
theorem rises_propose {m : Mb} (h : MbOk m) (c : Cm) : Rises m (m.propose c).1 := by
  unfold Mb.propose
  split
  · exact .refl m
  · split
    · exact .refl m
    · rename_i h1 _
      exact took_facts h (h.live (by omega)) c
/-- Within a term: nothing of the ballot changes but a vote that was not given, and so on. -/
theorem rises_asked {m : Mb} (h : MbOk m) (x : Ms) (hx : x.term ≤ m.term) : Rises m (m.asked x).1 := by
  have hg := grant_ok h.ballot 0 0 m.log x.frm x.term x.index x.lterm
  refine ⟨hg.2, fun _ hv => ?_, Int.le_refl _, fun _ _ _ => ⟨Nat.le_refl _, List.take_length⟩, rfl, rfl⟩
  show (grantF m.term m.vote 0 0 m.log x.frm x.term x.index x.lterm).2.1 = m.vote
  have hs : seeF m.term m.vote x.term = (m.term, m.vote) := by unfold seeF; rw [if_neg (by omega)]
  unfold grantF
  rw [hs]
  simp only
  split
  · rename_i hc
    rcases hc.2.2.1 with h1 | h1
    · exact (hv h1).elim
    · exact h1.symm
  · rfl
theorem rises_voted {m : Mb} (h : MbOk m) (x : Ms) (hx : 1 ≤ x.frm ∧ x.frm ≤ 16) : Rises m (m.voted x).1 := by
  unfold Mb.voted
  split
  · exact .refl m
  · rename_i hn
    have ht : 1 ≤ m.term := h.live (by omega)
    split
    · obtain ⟨q1, q2, q3, q4, q5⟩ := lead_facts (h.counted x hx) ht
      exact ⟨by show m.term ≤ (m.counted x).lead.term; rw [q2]; exact Int.le_refl _, fun _ _ => q3, q4, fun e _ _ => by omega, q1, q5⟩
    · exact ⟨Int.le_refl _, fun _ _ => rfl, Int.le_refl _, fun _ _ _ => ⟨Nat.le_refl _, List.take_length⟩, rfl, rfl⟩
theorem rises_add {m : Mb} (x : Ms) : Rises m (m.add x).1 := by
  unfold Mb.add
  split
  · exact .refl m
  · split
    · exact .refl m
    · rename_i hr
      split
      · exact ⟨Int.le_refl _, fun _ _ => rfl, Int.le_refl _, fun e _ _ => (hr e).elim, rfl, rfl⟩
      · exact ⟨Int.le_refl _, fun _ _ => rfl, by show m.settled ≤ max m.settled _; omega, fun e _ _ => (hr e).elim, rfl, rfl⟩
theorem rises_added {m : Mb} (h : MbOk m) (x : Ms) : Rises m (m.added x).1 := by
  have hl := h.len64
  have hlf := h.lastF
  have hm : 0 ≤ x.index → x.index ≤ m.log.length → Rises m (m.matched x) := fun h0 h1 => by
    have hk := h.setPr x.frm (max (m.prAt x.frm).1 x.index, max (m.prAt x.frm).1 x.index + 1) (by have := h.prAt x.frm; simp only; omega)
    have h2 := settle_up hk
    exact ⟨Int.le_refl _, fun _ _ => rfl, h2, fun _ _ _ => ⟨Nat.le_refl _, List.take_length⟩, rfl, by show (m.prog.set _ _).length = _; rw [List.length_set]⟩
  unfold Mb.added
  split
  · exact .refl m
  · split
    · exact ⟨Int.le_refl _, fun _ _ => rfl, Int.le_refl _, fun _ _ _ => ⟨Nat.le_refl _, List.take_length⟩, rfl, by show (m.prog.set _ _).length = _; rw [List.length_set]⟩
    · split
      · exact .refl m
      · rename_i h3
        rw [hlf] at h3 ⊢
        simp only at h3 ⊢
        split
        · exact hm (by omega) (by omega)
        · exact hm (by omega) (by omega)
theorem rises_hear {m : Mb} (h : MbOk m) (x : Ms) : Rises m (m.hear x).1 := by
  unfold Mb.hear
  split
  · rename_i hh
    unfold Mb.hears at hh
    rw [decide_eq_true_eq] at hh
    have hs := h.seen x (by omega)
    have hst : x.term ≤ (m.seen x).term := by
      unfold Mb.seen
      split
      · exact Int.le_refl _
      · omega
    have hfr : 1 ≤ x.frm ∧ x.frm ≤ 16 := by have := h.n16; omega
    have hr : Rises (m.seen x) ((m.seen x).acts x).1 := by
      unfold Mb.acts
      split
      · exact rises_asked hs x hst
      · split
        · exact rises_voted hs x hfr
        · split
          · exact rises_add x
          · exact rises_added hs x
    by_cases hlt : m.term < x.term
    · have he : m.seen x = { m with term := x.term, vote := 0, role := 0 } := if_pos hlt
      rw [he] at hr ⊢
      have h1 : x.term ≤ _ := hr.term
      exact ⟨by omega, fun e _ => by omega, hr.settled, fun _ _ e => by omega, hr.id, hr.many⟩
    · have he : m.seen x = m := if_neg hlt
      rw [he] at hr ⊢
      exact hr
  · exact .refl m
theorem rises_does {m : Mb} (h : MbOk m) (k : Int) (x : Ms) (c : Cm) : Rises m (m.does k x c) := by
  unfold Mb.does
  split
  · exact rises_hear h x
  · split
    · exact rises_timeout h
    · split
      · exact .refl m
      · exact rises_propose h c
end Go.Proofs.YthjdbmfobmnnlaaGreat

/-
  A group stays as it must be.
-/
namespace Go.Proofs.YthjdbmfobmnnlaaGreat
open Go.RowKit
set_option linter.unusedVariables false
/-! ### A group stays as it must be -/
theorem PairOk.inGr {n i : Nat} {p : Mb × Vt} (h : PairOk n i p) : InGr n p.1 := ⟨h.mb, h.many, h.wf⟩
theorem fresh_pair {n i : Nat} {x : Vt} (h1 : i < n) (h16 : n ≤ 16) (hx : VtOk x) (hl : x.1.length ≤ 65536) (hs : x.2.1 = x.1.length) (hw : ∀ e ∈ x.2.2.2.2, EnWf e) (ht : endT x.2.2.2.2 0 ≤ x.2.2.1) : newOk ((i : Int) + 1) n x.2.2.1 x.2.2.2.1 0 0 x.2.2.2.2 = true ∧ PairOk n i (fresh ((i : Int) + 1) n x, x) := by
  have hok : newOk ((i : Int) + 1) n x.2.2.1 x.2.2.2.1 0 0 x.2.2.2.2 = true := by
    unfold newOk
    rw [decide_eq_true_eq]
    refine ⟨by omega, by omega, by omega, by omega, hx.held.1, hx.held.2, rfl, ?_⟩
    rw [lastF_may hx.held.2]
    exact ht
  exact ⟨hok, (newMb_ok hok).2, rfl, by simp [fresh, newMb], hw, hx, hl, hs, rfl⟩
theorem PairOk.again {n i : Nat} {p : Mb × Vt} (h : PairOk n i p) (hi : i < n) (h16 : n ≤ 16) : newOk ((i : Int) + 1) n p.2.2.2.1 p.2.2.2.2.1 0 0 p.2.2.2.2.2 = true ∧ PairOk n i (fresh ((i : Int) + 1) n p.2, p.2) := by
  have hh := h.holds
  refine fresh_pair hi h16 h.vt h.le h.sync ?_ ?_
  · rw [hh]; exact h.wf
  · rw [hh]; exact h.mb.last
/-- Saved and synced. -/
theorem PairOk.save {n i : Nat} {p : Mb × Vt} (h : PairOk n i p) {m : Mb} (hm : InGr n m) (hid : m.id = (i : Int) + 1) (hs : saves m p.2 = 0) : PairOk n i (m, syncV (saved m p.2)) := by
  have h1 := saveV_ok h.vt m.term m.vote 0 0 m.log
  refine ⟨hm.mb, hid, hm.many, hm.wf, syncV_ok h1, saveV_le h.le, rfl, ?_⟩
  show (saved m p.2).2.2 = _
  unfold saved
  rw [saveV_eq hs]
/-- Behind a crash of what may have been saved. -/
theorem PairOk.crash {n i : Nat} {p : Mb × Vt} (h : PairOk n i p) (hi : i < n) (h16 : n ≤ 16) {m : Mb} (hm : InGr n m) (hr : p.1.term ≤ m.term) (k : Int) : newOk ((i : Int) + 1) n (crashV (saved m p.2) k).2.2.1 (crashV (saved m p.2) k).2.2.2.1 0 0 (crashV (saved m p.2) k).2.2.2.2 = true ∧ PairOk n i (fresh ((i : Int) + 1) n (crashV (saved m p.2) k), crashV (saved m p.2) k) := by
  by_cases hs : saves m p.2 = 0
  · have ht := crash_tornT h.vt h.sync hs k
    have hk := crashV_ok (saveV_ok h.vt m.term m.vote 0 0 m.log) k
    have hl := crashV_le (k := k) (saveV_le (x := p.2) (t := m.term) (v := m.vote) (b := 0) (bt := 0) (l := m.log) h.le)
    have hy := crash_sync (x := saved m p.2) k
    have he : crashV (saveV p.2 m.term m.vote 0 0 m.log) k = crashV (saved m p.2) k := rfl
    rw [he] at ht hk hl
    generalize crashV (saved m p.2) k = y at *
    have hh := h.holds
    have hlog : ∀ j, endT (p.1.log.take j) 0 ≤ m.term := fun j => by
      by_cases hn : p.1.log.take j = []
      · rw [hn, endT_nil]; have := (mayV_true hm.mb.ballot).1; exact this
      · obtain ⟨e, he, hee⟩ := endT_mem hn 0
        rw [hee]
        have := (rising_le h.mb.rise e (List.mem_of_mem_take he)).2
        have := h.mb.last
        omega
    have hlog2 : ∀ j, endT (m.log.take j) 0 ≤ m.term := fun j => by
      by_cases hn : m.log.take j = []
      · rw [hn, endT_nil]; have := (mayV_true hm.mb.ballot).1; exact this
      · obtain ⟨e, he, hee⟩ := endT_mem hn 0
        rw [hee]
        have := (rising_le hm.mb.rise e (List.mem_of_mem_take he)).2
        have := hm.mb.last
        omega
    refine fresh_pair hi h16 hk hl hy ?_ ?_
    · rcases ht with h1 | ⟨_, _, ⟨j, _, h1⟩ | ⟨j, _, h1⟩⟩
      · rw [h1, hh]; exact h.wf
      · rw [h1, hh]; exact fun e he => h.wf e (List.mem_of_mem_take he)
      · rw [h1]; exact fun e he => hm.wf e (List.mem_of_mem_take he)
    · rcases ht with h1 | ⟨h0, _, ⟨j, _, h1⟩ | ⟨j, _, h1⟩⟩
      · rw [h1, hh]; exact h.mb.last
      · rw [h1, h0, hh]; exact hlog j
      · rw [h1, h0]; exact hlog2 j
  · have he : saved m p.2 = p.2 := saveV_no hs
    rw [he, crash_synced h.vt h.sync k]
    exact h.again hi h16
/-- A crash of what was synced. -/
theorem PairOk.crash0 {n i : Nat} {p : Mb × Vt} (h : PairOk n i p) (k : Int) : crashV p.2 k = p.2 := crash_synced h.vt h.sync k
namespace Gr
variable {g : Gr}
theorem set_len (g : Gr) (i : Int) (p : Mb × Vt) : (g.set i p).ms.length = g.ms.length := List.length_set
theorem acts_len (g : Gr) (i : Int) (m : Mb) (l : List Ms) : (g.acts i m l).ms.length = g.ms.length := by
  unfold acts
  split
  · exact set_len _ _ _
  · exact set_len _ _ _
end Gr
namespace GrOk
variable {g : Gr} {k a : Int}
theorem at_ (h : GrOk g) {i : Int} (h1 : 1 ≤ i) (h2 : i ≤ g.ms.length) : PairOk g.ms.length (i - 1).toNat (g.at_ i) ∧ (i - 1).toNat < g.ms.length ∧ (((i - 1).toNat : Nat) : Int) + 1 = i := by
  have hi : (i - 1).toNat < g.ms.length := by omega
  refine ⟨?_, hi, by omega⟩
  unfold Gr.at_
  rw [List.getD_eq_getElem?_getD, List.getElem?_eq_getElem hi]
  exact h.pair _ _ (List.getElem?_eq_getElem hi)
theorem set (h : GrOk g) {i : Int} {p : Mb × Vt} (hp : PairOk g.ms.length (i - 1).toNat p) : GrOk (g.set i p) := by
  refine ⟨by rw [Gr.set_len]; exact h.n1, by rw [Gr.set_len]; exact h.n16, fun j q hq => ?_, by rw [Gr.set_len]; exact h.net⟩
  rw [Gr.set_len]
  unfold Gr.set at hq
  simp only at hq
  rw [List.getElem?_set] at hq
  split at hq
  · rename_i he
    split at hq
    · injection hq with hq
      subst hq
      rw [← he]
      exact hp
    · cases hq
  · exact h.pair j q hq
theorem netOf (h : GrOk g) {l : List Ms} (hl : ∀ x ∈ l, MsOk g.ms.length x) : GrOk ⟨g.ms, l⟩ := ⟨h.n1, h.n16, h.pair, hl⟩
theorem anew (h : GrOk g) {i : Int} (h1 : 1 ≤ i) (h2 : i ≤ g.ms.length) {x : Vt} (hx : PairOk g.ms.length (i - 1).toNat (fresh i g.ms.length x, x)) : GrOk (g.anew i x) := h.set hx
theorem again (h : GrOk g) {i : Int} (h1 : 1 ≤ i) (h2 : i ≤ g.ms.length) : GrOk (g.anew i (g.at_ i).2) := by
  obtain ⟨hp, hi, he⟩ := h.at_ h1 h2
  have := (hp.again hi h.n16).2
  rw [he] at this
  exact h.anew h1 h2 this
theorem acts (h : GrOk g) {i : Int} (h1 : 1 ≤ i) (h2 : i ≤ g.ms.length) {m : Mb} {said : List Ms} (hm : InGr g.ms.length m) (hid : m.id = i) (hs : ∀ y ∈ said, MsOk g.ms.length y) : GrOk (g.acts i m said) := by
  obtain ⟨hp, hi, he⟩ := h.at_ h1 h2
  unfold Gr.acts
  split
  · rename_i hz
    have h3 := h.set (i := i) (p := (m, syncV (saved m (g.at_ i).2))) (hp.save hm (by omega) hz)
    refine ⟨h3.n1, h3.n16, h3.pair, ?_⟩
    rw [Gr.set_len]
    intro x hx
    rcases List.mem_append.1 hx with h4 | h4
    · exact h.net x h4
    · exact hs x h4
  · exact h.again h1 h2
theorem take (h : GrOk g) (k : Nat) : GrOk (g.take k) := h.netOf fun x hx => h.net x (List.mem_of_mem_eraseIdx hx)
theorem msg (h : GrOk g) {k : Nat} (hk : k < g.net.length) : MsOk g.ms.length (g.msg k) := by
  unfold Gr.msg
  rw [List.getD_eq_getElem?_getD, List.getElem?_eq_getElem hk]
  exact h.net _ (List.getElem_mem hk)
theorem crash (h : GrOk g) {i : Int} (h1 : 1 ≤ i) (h2 : i ≤ g.ms.length) (keep : Int) : GrOk (g.crash i keep) := by
  unfold Gr.crash
  rw [(h.at_ h1 h2).1.crash0 keep]
  exact h.again h1 h2
theorem hears (h : GrOk g) {x : Ms} (hx : MsOk g.ms.length x) : GrOk (g.hears x) := by
  obtain ⟨hp, hi, he⟩ := h.at_ hx.dst.1 hx.dst.2
  obtain ⟨q1, q2⟩ := hp.inGr.hear hx
  exact h.acts hx.dst.1 hx.dst.2 q1 (by rw [(rises_hear hp.mb x).id, hp.id]; exact he) q2
theorem torn (h : GrOk g) {x : Ms} (hx : MsOk g.ms.length x) (keep : Int) : GrOk (g.torn x keep) := by
  obtain ⟨hp, hi, he⟩ := h.at_ hx.dst.1 hx.dst.2
  have := (hp.crash hi h.n16 (hp.inGr.hear hx).1 (rises_hear hp.mb x).term keep).2
  rw [he] at this
  exact h.anew hx.dst.1 hx.dst.2 this
theorem propose (h : GrOk g) {i : Int} (h1 : 1 ≤ i) (h2 : i ≤ g.ms.length) (a b : Int) : GrOk (g.propose i a b).1 := by
  obtain ⟨hp, hi, he⟩ := h.at_ h1 h2
  unfold Gr.propose
  split
  · exact h
  · split
    · obtain ⟨q1, q2⟩ := hp.inGr.propose (a := a) (b := b) (by omega) (by omega)
      exact h.acts h1 h2 q1 (by rw [(rises_propose hp.mb _).id, hp.id]; exact he) q2
    · exact h
theorem there_member (h : g.there k a = 0) (hk : k = 0 ∨ k = 1 ∨ k = 2 ∨ k = 6) : 1 ≤ a ∧ a ≤ g.ms.length := by
  unfold Gr.there at h
  rw [if_pos hk] at h
  split at h
  · cases h
  · omega
theorem there_msg (h : g.there k a = 0) (hk : k = 3 ∨ k = 4 ∨ k = 5 ∨ k = 7) : 0 ≤ a ∧ a.toNat < g.net.length := by
  unfold Gr.there at h
  rw [if_neg (by omega), if_pos hk] at h
  split at h
  · cases h
  · omega
theorem there_kind (h : g.there k a = 0) : 0 ≤ k ∧ k ≤ 7 := by
  unfold Gr.there at h
  split at h
  · omega
  · split at h
    · omega
    · cases h
theorem does (h : GrOk g) (k a b c : Int) : GrOk (g.does k a b c).1 := by
  unfold Gr.does
  split
  · exact h
  rename_i ht
  have ht : g.there k a = 0 := by
    by_cases q : g.there k a = 0
    · exact q
    · exact (ht q).elim
  split
  · obtain ⟨h1, h2⟩ := there_member ht (by omega)
    obtain ⟨hp, hi, he⟩ := h.at_ h1 h2
    obtain ⟨q1, q2⟩ := hp.inGr.timeout
    exact h.acts h1 h2 q1 (by rw [(rises_timeout hp.mb).id, hp.id]; exact he) q2
  split
  · obtain ⟨h1, h2⟩ := there_member ht (by omega)
    obtain ⟨hp, hi, he⟩ := h.at_ h1 h2
    exact h.acts h1 h2 (m := (g.at_ a).1) hp.inGr (by rw [hp.id]; exact he) hp.inGr.beat
  split
  · obtain ⟨h1, h2⟩ := there_member ht (by omega)
    exact h.propose h1 h2 b c
  split
  · obtain ⟨h1, h2⟩ := there_msg ht (by omega)
    exact (h.take _).hears (h.msg h2)
  split
  · exact h.take _
  split
  · obtain ⟨h1, h2⟩ := there_msg ht (by omega)
    exact h.netOf fun x hx => by
      rcases List.mem_append.1 hx with h3 | h3
      · exact h.net x h3
      · rw [List.mem_singleton] at h3; subst h3; exact h.msg h2
  split
  · obtain ⟨h1, h2⟩ := there_member ht (by omega)
    exact h.crash h1 h2 b
  · obtain ⟨h1, h2⟩ := there_msg ht (by have := there_kind ht; omega)
    exact (h.take _).torn (h.msg h2) b
end GrOk
theorem newGr_ok {n : Nat} (h1 : 1 ≤ n) (h16 : n ≤ 16) : GrOk (newGr n) := by
  have hl : (newGr n).ms.length = n := by simp [newGr]
  refine ⟨by rw [hl]; exact h1, by rw [hl]; exact h16, fun i p hp => ?_, fun x hx => by cases hx⟩
  rw [hl]
  unfold newGr at hp
  simp only [List.getElem?_map] at hp
  by_cases hi : i < n
  · rw [List.getElem?_range hi] at hp
    simp only [Option.map_some] at hp
    injection hp with hp
    subst hp
    have := (fresh_pair (x := vt0) hi h16 vt0_ok (Nat.zero_le _) rfl (fun e he => by cases he) (Int.le_refl _)).2
    exact this
  · rw [List.getElem?_eq_none (by simp; omega)] at hp
    cases hp
end Go.Proofs.YthjdbmfobmnnlaaGreat
