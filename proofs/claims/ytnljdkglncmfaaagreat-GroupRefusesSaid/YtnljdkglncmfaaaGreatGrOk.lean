/-
  A group stays as it must be.
-/
import Derived.Test.YtnljdkglncmfaaaGreatGrMath
import Derived.Test.YtnljdkglncmfaaaGreatRisesMath
import Derived.Test.YtnljdkglncmfaaaGreatBr
namespace Go.Proofs.YtnljdkglncmfaaaGreat
open Go.RowKit
set_option linter.unusedVariables false
/-! ### A group stays as it must be -/
theorem PairOk.inGr {n i : Nat} {p : Mb × Vt} (h : PairOk n i p) : InGr n p.1 := ⟨h.mb, h.many, h.wf⟩
theorem fresh_pair {n i : Nat} {x : Vt} (h1 : i < n) (h16 : n ≤ 16) (hx : VtOk x) (hl : x.1.length ≤ 65536) (hs : x.2.1 = x.1.length) (hw : ∀ e ∈ x.2.2.2.2, EnWf e) (ht : endT x.2.2.2.2 0 ≤ x.2.2.1) : newOk ((i : Int) + 1) n x.2.2.1 x.2.2.2.1 0 0 x.2.2.2.2 = true ∧ PairOk n i (fresh ((i : Int) + 1) n x, x) := by
  have hok : newOk ((i : Int) + 1) n x.2.2.1 x.2.2.2.1 0 0 x.2.2.2.2 = true := by
    unfold newOk
    rw [decide_eq_true_eq]
    refine ⟨by omega, by omega, by omega, by omega, hx.held.1, hx.held.2, rfl, ?_⟩
    rw [lastF_may hx.held.2]
    exact ht
  exact ⟨hok, (newMb_ok hok).2, rfl, by simp [fresh, newMb], hw, hx, hl, hs, rfl⟩
theorem PairOk.again {n i : Nat} {p : Mb × Vt} (h : PairOk n i p) (hi : i < n) (h16 : n ≤ 16) : newOk ((i : Int) + 1) n p.2.2.2.1 p.2.2.2.2.1 0 0 p.2.2.2.2.2 = true ∧ PairOk n i (fresh ((i : Int) + 1) n p.2, p.2) := by
  have hh := h.holds
  refine fresh_pair hi h16 h.vt h.le h.sync ?_ ?_
  · rw [hh]; exact h.wf
  · rw [hh]; exact h.mb.last
/-- Saved and synced. -/
theorem PairOk.save {n i : Nat} {p : Mb × Vt} (h : PairOk n i p) {m : Mb} (hm : InGr n m) (hid : m.id = (i : Int) + 1) (hs : saves m p.2 = 0) : PairOk n i (m, syncV (saved m p.2)) := by
  have h1 := saveV_ok h.vt m.term m.vote 0 0 m.log
  refine ⟨hm.mb, hid, hm.many, hm.wf, syncV_ok h1, saveV_le h.le, rfl, ?_⟩
  show (saved m p.2).2.2 = _
  unfold saved
  rw [saveV_eq hs]
/-- Behind a crash of what may have been saved. -/
theorem PairOk.crash {n i : Nat} {p : Mb × Vt} (h : PairOk n i p) (hi : i < n) (h16 : n ≤ 16) {m : Mb} (hm : InGr n m) (hr : p.1.term ≤ m.term) (k : Int) : newOk ((i : Int) + 1) n (crashV (saved m p.2) k).2.2.1 (crashV (saved m p.2) k).2.2.2.1 0 0 (crashV (saved m p.2) k).2.2.2.2 = true ∧ PairOk n i (fresh ((i : Int) + 1) n (crashV (saved m p.2) k), crashV (saved m p.2) k) := by
  by_cases hs : saves m p.2 = 0
  · have ht := crash_tornT h.vt h.sync hs k
    have hk := crashV_ok (saveV_ok h.vt m.term m.vote 0 0 m.log) k
    have hl := crashV_le (k := k) (saveV_le (x := p.2) (t := m.term) (v := m.vote) (b := 0) (bt := 0) (l := m.log) h.le)
    have hy := crash_sync (x := saved m p.2) k
    have he : crashV (saveV p.2 m.term m.vote 0 0 m.log) k = crashV (saved m p.2) k := rfl
    rw [he] at ht hk hl
    generalize crashV (saved m p.2) k = y at *
    have hh := h.holds
    have hlog : ∀ j, endT (p.1.log.take j) 0 ≤ m.term := fun j => by
      by_cases hn : p.1.log.take j = []
      · rw [hn, endT_nil]; have := (mayV_true hm.mb.ballot).1; exact this
      · obtain ⟨e, he, hee⟩ := endT_mem hn 0
        rw [hee]
        have := (rising_le h.mb.rise e (List.mem_of_mem_take he)).2
        have := h.mb.last
        omega
    have hlog2 : ∀ j, endT (m.log.take j) 0 ≤ m.term := fun j => by
      by_cases hn : m.log.take j = []
      · rw [hn, endT_nil]; have := (mayV_true hm.mb.ballot).1; exact this
      · obtain ⟨e, he, hee⟩ := endT_mem hn 0
        rw [hee]
        have := (rising_le hm.mb.rise e (List.mem_of_mem_take he)).2
        have := hm.mb.last
        omega
    refine fresh_pair hi h16 hk hl hy ?_ ?_
    · rcases ht with h1 | ⟨_, _, ⟨j, _, h1⟩ | ⟨j, _, h1⟩⟩
      · rw [h1, hh]; exact h.wf
      · rw [h1, hh]; exact fun e he => h.wf e (List.mem_of_mem_take he)
      · rw [h1]; exact fun e he => hm.wf e (List.mem_of_mem_take he)
    · rcases ht with h1 | ⟨h0, _, ⟨j, _, h1⟩ | ⟨j, _, h1⟩⟩
      · rw [h1, hh]; exact h.mb.last
      · rw [h1, h0, hh]; exact hlog j
      · rw [h1, h0]; exact hlog2 j
  · have he : saved m p.2 = p.2 := saveV_no hs
    rw [he, crash_synced h.vt h.sync k]
    exact h.again hi h16
/-- A crash of what was synced. -/
theorem PairOk.crash0 {n i : Nat} {p : Mb × Vt} (h : PairOk n i p) (k : Int) : crashV p.2 k = p.2 := crash_synced h.vt h.sync k
namespace Gr
variable {g : Gr}
theorem set_len (g : Gr) (i : Int) (p : Mb × Vt) : (g.set i p).ms.length = g.ms.length := List.length_set
theorem acts_len (g : Gr) (i : Int) (m : Mb) (l : List Ms) : (g.acts i m l).ms.length = g.ms.length := by
  unfold acts
  split
  · exact set_len _ _ _
  · exact set_len _ _ _
end Gr
namespace GrOk
variable {g : Gr} {k a : Int}
theorem at_ (h : GrOk g) {i : Int} (h1 : 1 ≤ i) (h2 : i ≤ g.ms.length) : PairOk g.ms.length (i - 1).toNat (g.at_ i) ∧ (i - 1).toNat < g.ms.length ∧ (((i - 1).toNat : Nat) : Int) + 1 = i := by
  have hi : (i - 1).toNat < g.ms.length := by omega
  refine ⟨?_, hi, by omega⟩
  unfold Gr.at_
  rw [List.getD_eq_getElem?_getD, List.getElem?_eq_getElem hi]
  exact h.pair _ _ (List.getElem?_eq_getElem hi)
theorem set (h : GrOk g) {i : Int} {p : Mb × Vt} (hp : PairOk g.ms.length (i - 1).toNat p) : GrOk (g.set i p) := by
  refine ⟨by rw [Gr.set_len]; exact h.n1, by rw [Gr.set_len]; exact h.n16, fun j q hq => ?_, by rw [Gr.set_len]; exact h.net⟩
  rw [Gr.set_len]
  unfold Gr.set at hq
  simp only at hq
  rw [List.getElem?_set] at hq
  split at hq
  · rename_i he
    split at hq
    · injection hq with hq
      subst hq
      rw [← he]
      exact hp
    · cases hq
  · exact h.pair j q hq
theorem netOf (h : GrOk g) {l : List Ms} (hl : ∀ x ∈ l, MsOk g.ms.length x) : GrOk ⟨g.ms, l⟩ := ⟨h.n1, h.n16, h.pair, hl⟩
theorem anew (h : GrOk g) {i : Int} (h1 : 1 ≤ i) (h2 : i ≤ g.ms.length) {x : Vt} (hx : PairOk g.ms.length (i - 1).toNat (fresh i g.ms.length x, x)) : GrOk (g.anew i x) := h.set hx
theorem again (h : GrOk g) {i : Int} (h1 : 1 ≤ i) (h2 : i ≤ g.ms.length) : GrOk (g.anew i (g.at_ i).2) := by
  obtain ⟨hp, hi, he⟩ := h.at_ h1 h2
  have := (hp.again hi h.n16).2
  rw [he] at this
  exact h.anew h1 h2 this
theorem acts (h : GrOk g) {i : Int} (h1 : 1 ≤ i) (h2 : i ≤ g.ms.length) {m : Mb} {said : List Ms} (hm : InGr g.ms.length m) (hid : m.id = i) (hs : ∀ y ∈ said, MsOk g.ms.length y) : GrOk (g.acts i m said) := by
  obtain ⟨hp, hi, he⟩ := h.at_ h1 h2
  unfold Gr.acts
  split
  · rename_i hz
    have h3 := h.set (i := i) (p := (m, syncV (saved m (g.at_ i).2))) (hp.save hm (by omega) hz)
    refine ⟨h3.n1, h3.n16, h3.pair, ?_⟩
    rw [Gr.set_len]
    intro x hx
    rcases List.mem_append.1 hx with h4 | h4
    · exact h.net x h4
    · exact hs x h4
  · exact h.again h1 h2
theorem take (h : GrOk g) (k : Nat) : GrOk (g.take k) := h.netOf fun x hx => h.net x (List.mem_of_mem_eraseIdx hx)
theorem msg (h : GrOk g) {k : Nat} (hk : k < g.net.length) : MsOk g.ms.length (g.msg k) := by
  unfold Gr.msg
  rw [List.getD_eq_getElem?_getD, List.getElem?_eq_getElem hk]
  exact h.net _ (List.getElem_mem hk)
theorem crash (h : GrOk g) {i : Int} (h1 : 1 ≤ i) (h2 : i ≤ g.ms.length) (keep : Int) : GrOk (g.crash i keep) := by
  unfold Gr.crash
  rw [(h.at_ h1 h2).1.crash0 keep]
  exact h.again h1 h2
theorem hears (h : GrOk g) {x : Ms} (hx : MsOk g.ms.length x) : GrOk (g.hears x) := by
  obtain ⟨hp, hi, he⟩ := h.at_ hx.dst.1 hx.dst.2
  obtain ⟨q1, q2⟩ := hp.inGr.hear hx
  exact h.acts hx.dst.1 hx.dst.2 q1 (by rw [(rises_hear hp.mb x).id, hp.id]; exact he) q2
theorem torn (h : GrOk g) {x : Ms} (hx : MsOk g.ms.length x) (keep : Int) : GrOk (g.torn x keep) := by
  obtain ⟨hp, hi, he⟩ := h.at_ hx.dst.1 hx.dst.2
  have := (hp.crash hi h.n16 (hp.inGr.hear hx).1 (rises_hear hp.mb x).term keep).2
  rw [he] at this
  exact h.anew hx.dst.1 hx.dst.2 this
theorem propose (h : GrOk g) {i : Int} (h1 : 1 ≤ i) (h2 : i ≤ g.ms.length) (a b : Int) : GrOk (g.propose i a b).1 := by
  obtain ⟨hp, hi, he⟩ := h.at_ h1 h2
  unfold Gr.propose
  split
  · exact h
  · split
    · obtain ⟨q1, q2⟩ := hp.inGr.propose (a := a) (b := b) (by omega) (by omega)
      exact h.acts h1 h2 q1 (by rw [(rises_propose hp.mb _).id, hp.id]; exact he) q2
    · exact h
theorem there_member (h : g.there k a = 0) (hk : k = 0 ∨ k = 1 ∨ k = 2 ∨ k = 6) : 1 ≤ a ∧ a ≤ g.ms.length := by
  unfold Gr.there at h
  rw [if_pos hk] at h
  split at h
  · cases h
  · omega
theorem there_msg (h : g.there k a = 0) (hk : k = 3 ∨ k = 4 ∨ k = 5 ∨ k = 7) : 0 ≤ a ∧ a.toNat < g.net.length := by
  unfold Gr.there at h
  rw [if_neg (by omega), if_pos hk] at h
  split at h
  · cases h
  · omega
theorem there_kind (h : g.there k a = 0) : 0 ≤ k ∧ k ≤ 7 := by
  unfold Gr.there at h
  split at h
  · omega
  · split at h
    · omega
    · cases h
theorem does (h : GrOk g) (k a b c : Int) : GrOk (g.does k a b c).1 := by
  unfold Gr.does
  split
  · exact h
  rename_i ht
  have ht : g.there k a = 0 := by
    by_cases q : g.there k a = 0
    · exact q
    · exact (ht q).elim
  split
  · obtain ⟨h1, h2⟩ := there_member ht (by omega)
    obtain ⟨hp, hi, he⟩ := h.at_ h1 h2
    obtain ⟨q1, q2⟩ := hp.inGr.timeout
    exact h.acts h1 h2 q1 (by rw [(rises_timeout hp.mb).id, hp.id]; exact he) q2
  split
  · obtain ⟨h1, h2⟩ := there_member ht (by omega)
    obtain ⟨hp, hi, he⟩ := h.at_ h1 h2
    exact h.acts h1 h2 (m := (g.at_ a).1) hp.inGr (by rw [hp.id]; exact he) hp.inGr.beat
  split
  · obtain ⟨h1, h2⟩ := there_member ht (by omega)
    exact h.propose h1 h2 b c
  split
  · obtain ⟨h1, h2⟩ := there_msg ht (by omega)
    exact (h.take _).hears (h.msg h2)
  split
  · exact h.take _
  split
  · obtain ⟨h1, h2⟩ := there_msg ht (by omega)
    exact h.netOf fun x hx => by
      rcases List.mem_append.1 hx with h3 | h3
      · exact h.net x h3
      · rw [List.mem_singleton] at h3; subst h3; exact h.msg h2
  split
  · obtain ⟨h1, h2⟩ := there_member ht (by omega)
    exact h.crash h1 h2 b
  · obtain ⟨h1, h2⟩ := there_msg ht (by have := there_kind ht; omega)
    exact (h.take _).torn (h.msg h2) b
end GrOk
theorem newGr_ok {n : Nat} (h1 : 1 ≤ n) (h16 : n ≤ 16) : GrOk (newGr n) := by
  have hl : (newGr n).ms.length = n := by simp [newGr]
  refine ⟨by rw [hl]; exact h1, by rw [hl]; exact h16, fun i p hp => ?_, fun x hx => by cases hx⟩
  rw [hl]
  unfold newGr at hp
  simp only [List.getElem?_map] at hp
  by_cases hi : i < n
  · rw [List.getElem?_range hi] at hp
    simp only [Option.map_some] at hp
    injection hp with hp
    subst hp
    have := (fresh_pair (x := vt0) hi h16 vt0_ok (Nat.zero_le _) rfl (fun e he => by cases he) (Int.le_refl _)).2
    exact this
  · rw [List.getElem?_eq_none (by simp; omega)] at hp
    cases hp
end Go.Proofs.YtnljdkglncmfaaaGreat
