/-
  There; what is said, and acted on.
-/
import Derived.Test.YthjdbmfobmnnlaaGreatGrC
import Derived.Test.YthjdbmfobmnnlaaGreatGp
import Derived.Test.YthjdbmfobmnnlaaGreatBh
namespace Go.Proofs.YthjdbmfobmnnlaaGreat
open Go.RowKit
set_option linter.unusedVariables false
/-- An item's cells. -/
abbrev itV (k a b c : Int) : Value := .agg #[.int .i64 k, .int .i64 a, .int .i64 b, .int .i64 c]
theorem box4 {w : World} {F : Nat} {c0 c1 c2 c3 : Value} {t : TypeId} (h : w.heap[F]? = some (.cells #[c0, c1, c2, c3] t)) : w.cell? ⟨F, 0, none⟩ = some c0 ∧ w.cell? ⟨F, 1, none⟩ = some c1 ∧ w.cell? ⟨F, 2, none⟩ = some c2 ∧ w.cell? ⟨F, 3, none⟩ = some c3 ∧ w.frozen? ⟨F, 1, none⟩ = false ∧ F < w.heap.size :=
  ⟨blk_cell h 0, blk_cell h 1, blk_cell h 2, blk_cell h 3, blk_frozen h 1, blk_lt h⟩
theorem there_m {g : Gr} {k a : Int} (hk : k = 0 ∨ k = 1 ∨ k = 2 ∨ k = 6) : g.there k a = if a < 1 ∨ (g.ms.length : Int) < a then 5 else 0 := if_pos hk
theorem there_x {g : Gr} {k a : Int} (hk : k = 3 ∨ k = 4 ∨ k = 5 ∨ k = 7) : g.there k a = if a < 0 ∨ (g.net.length : Int) ≤ a then 5 else 0 := by
  unfold Gr.there
  rw [if_neg (by omega), if_pos hk]
theorem there_o {g : Gr} {k a : Int} (hk : k < 0 ∨ 7 < k) : g.there k a = 1 := by
  unfold Gr.there
  rw [if_neg (by omega), if_neg (by omega)]
set_option maxRecDepth 100000 in
set_option maxHeartbeats 6400000 in
theorem there_any {w : World} {G : Nat} {L : GL} {g : Gr} (h : GAt w G L g) (k a b c : Int) : Calls Tryz.prog 25 #[.pointer (some ⟨G, 0, none⟩), itV k a b c] w fun e w' => e = .returned (.int .i64 (g.there k a)) ∧ Below w.heap.size w w' := by
  have hal := below1 w (.cells #[.int .i64 k, .int .i64 a, .int .i64 b, .int .i64 c] 30)
  obtain ⟨c0, c1, f0, f1, hlt⟩ := (h.below hal).cells
  have n1 : (0 : Int) ≤ (g.ms.length : Int) := by omega
  have n2 : (0 : Int) ≤ (g.net.length : Int) := by omega
  generalize hgt : g.there k a = T
  clear h
  by_cases e0 : k = 0
  · subst e0
    rw [there_m (by decide)] at hgt
    by_cases q1 : a < 1
    · have HT : Hid (T = 5) := by rw [Hid, ← hgt, if_pos (.inl q1)]
      clear hgt
      go_enter Tryz.func25, Tryz.ntmps25
      go_wp2
      go_ret
      rw [HT.out]
      exact ⟨rfl, hal⟩
    by_cases q2 : (g.ms.length : Int) < a
    · have HT : Hid (T = 5) := by rw [Hid, ← hgt, if_pos (.inr q2)]
      clear hgt
      go_enter Tryz.func25, Tryz.ntmps25
      go_wp2
      go_ret
      rw [HT.out]
      exact ⟨rfl, hal⟩
    have HT : Hid (T = 0) := by rw [Hid, ← hgt, if_neg (by omega)]
    clear hgt
    go_enter Tryz.func25, Tryz.ntmps25
    go_wp2
    go_ret
    rw [HT.out]
    exact ⟨rfl, hal⟩
  by_cases e1 : k = 1
  · subst e1
    rw [there_m (by decide)] at hgt
    by_cases q1 : a < 1
    · have HT : Hid (T = 5) := by rw [Hid, ← hgt, if_pos (.inl q1)]
      clear hgt
      go_enter Tryz.func25, Tryz.ntmps25
      go_wp2
      go_ret
      rw [HT.out]
      exact ⟨rfl, hal⟩
    by_cases q2 : (g.ms.length : Int) < a
    · have HT : Hid (T = 5) := by rw [Hid, ← hgt, if_pos (.inr q2)]
      clear hgt
      go_enter Tryz.func25, Tryz.ntmps25
      go_wp2
      go_ret
      rw [HT.out]
      exact ⟨rfl, hal⟩
    have HT : Hid (T = 0) := by rw [Hid, ← hgt, if_neg (by omega)]
    clear hgt
    go_enter Tryz.func25, Tryz.ntmps25
    go_wp2
    go_ret
    rw [HT.out]
    exact ⟨rfl, hal⟩
  by_cases e2 : k = 2
  · subst e2
    rw [there_m (by decide)] at hgt
    by_cases q1 : a < 1
    · have HT : Hid (T = 5) := by rw [Hid, ← hgt, if_pos (.inl q1)]
      clear hgt
      go_enter Tryz.func25, Tryz.ntmps25
      go_wp2
      go_ret
      rw [HT.out]
      exact ⟨rfl, hal⟩
    by_cases q2 : (g.ms.length : Int) < a
    · have HT : Hid (T = 5) := by rw [Hid, ← hgt, if_pos (.inr q2)]
      clear hgt
      go_enter Tryz.func25, Tryz.ntmps25
      go_wp2
      go_ret
      rw [HT.out]
      exact ⟨rfl, hal⟩
    have HT : Hid (T = 0) := by rw [Hid, ← hgt, if_neg (by omega)]
    clear hgt
    go_enter Tryz.func25, Tryz.ntmps25
    go_wp2
    go_ret
    rw [HT.out]
    exact ⟨rfl, hal⟩
  by_cases e6 : k = 6
  · subst e6
    rw [there_m (by decide)] at hgt
    by_cases q1 : a < 1
    · have HT : Hid (T = 5) := by rw [Hid, ← hgt, if_pos (.inl q1)]
      clear hgt
      go_enter Tryz.func25, Tryz.ntmps25
      go_wp2
      go_ret
      rw [HT.out]
      exact ⟨rfl, hal⟩
    by_cases q2 : (g.ms.length : Int) < a
    · have HT : Hid (T = 5) := by rw [Hid, ← hgt, if_pos (.inr q2)]
      clear hgt
      go_enter Tryz.func25, Tryz.ntmps25
      go_wp2
      go_ret
      rw [HT.out]
      exact ⟨rfl, hal⟩
    have HT : Hid (T = 0) := by rw [Hid, ← hgt, if_neg (by omega)]
    clear hgt
    go_enter Tryz.func25, Tryz.ntmps25
    go_wp2
    go_ret
    rw [HT.out]
    exact ⟨rfl, hal⟩
  by_cases e3 : k = 3
  · subst e3
    rw [there_x (by decide)] at hgt
    by_cases q1 : a < 0
    · have HT : Hid (T = 5) := by rw [Hid, ← hgt, if_pos (.inl q1)]
      clear hgt
      go_enter Tryz.func25, Tryz.ntmps25
      go_wp2
      go_ret
      rw [HT.out]
      exact ⟨rfl, hal⟩
    by_cases q2 : (g.net.length : Int) ≤ a
    · have HT : Hid (T = 5) := by rw [Hid, ← hgt, if_pos (.inr q2)]
      clear hgt
      go_enter Tryz.func25, Tryz.ntmps25
      go_wp2
      go_ret
      rw [HT.out]
      exact ⟨rfl, hal⟩
    have HT : Hid (T = 0) := by rw [Hid, ← hgt, if_neg (by omega)]
    clear hgt
    go_enter Tryz.func25, Tryz.ntmps25
    go_wp2
    go_ret
    rw [HT.out]
    exact ⟨rfl, hal⟩
  by_cases e4 : k = 4
  · subst e4
    rw [there_x (by decide)] at hgt
    by_cases q1 : a < 0
    · have HT : Hid (T = 5) := by rw [Hid, ← hgt, if_pos (.inl q1)]
      clear hgt
      go_enter Tryz.func25, Tryz.ntmps25
      go_wp2
      go_ret
      rw [HT.out]
      exact ⟨rfl, hal⟩
    by_cases q2 : (g.net.length : Int) ≤ a
    · have HT : Hid (T = 5) := by rw [Hid, ← hgt, if_pos (.inr q2)]
      clear hgt
      go_enter Tryz.func25, Tryz.ntmps25
      go_wp2
      go_ret
      rw [HT.out]
      exact ⟨rfl, hal⟩
    have HT : Hid (T = 0) := by rw [Hid, ← hgt, if_neg (by omega)]
    clear hgt
    go_enter Tryz.func25, Tryz.ntmps25
    go_wp2
    go_ret
    rw [HT.out]
    exact ⟨rfl, hal⟩
  by_cases e5 : k = 5
  · subst e5
    rw [there_x (by decide)] at hgt
    by_cases q1 : a < 0
    · have HT : Hid (T = 5) := by rw [Hid, ← hgt, if_pos (.inl q1)]
      clear hgt
      go_enter Tryz.func25, Tryz.ntmps25
      go_wp2
      go_ret
      rw [HT.out]
      exact ⟨rfl, hal⟩
    by_cases q2 : (g.net.length : Int) ≤ a
    · have HT : Hid (T = 5) := by rw [Hid, ← hgt, if_pos (.inr q2)]
      clear hgt
      go_enter Tryz.func25, Tryz.ntmps25
      go_wp2
      go_ret
      rw [HT.out]
      exact ⟨rfl, hal⟩
    have HT : Hid (T = 0) := by rw [Hid, ← hgt, if_neg (by omega)]
    clear hgt
    go_enter Tryz.func25, Tryz.ntmps25
    go_wp2
    go_ret
    rw [HT.out]
    exact ⟨rfl, hal⟩
  by_cases e7 : k = 7
  · subst e7
    rw [there_x (by decide)] at hgt
    by_cases q1 : a < 0
    · have HT : Hid (T = 5) := by rw [Hid, ← hgt, if_pos (.inl q1)]
      clear hgt
      go_enter Tryz.func25, Tryz.ntmps25
      go_wp2
      go_ret
      rw [HT.out]
      exact ⟨rfl, hal⟩
    by_cases q2 : (g.net.length : Int) ≤ a
    · have HT : Hid (T = 5) := by rw [Hid, ← hgt, if_pos (.inr q2)]
      clear hgt
      go_enter Tryz.func25, Tryz.ntmps25
      go_wp2
      go_ret
      rw [HT.out]
      exact ⟨rfl, hal⟩
    have HT : Hid (T = 0) := by rw [Hid, ← hgt, if_neg (by omega)]
    clear hgt
    go_enter Tryz.func25, Tryz.ntmps25
    go_wp2
    go_ret
    rw [HT.out]
    exact ⟨rfl, hal⟩
  rw [there_o (by omega)] at hgt
  have HT : Hid (T = 1) := hgt.symm
  have b0 : (k == 0) = false := by simpa using e0
  have b1 : (k == 1) = false := by simpa using e1
  have b2 : (k == 2) = false := by simpa using e2
  have b3 : (k == 3) = false := by simpa using e3
  have b4 : (k == 4) = false := by simpa using e4
  have b5 : (k == 5) = false := by simpa using e5
  have b6 : (k == 6) = false := by simpa using e6
  have b7 : (k == 7) = false := by simpa using e7
  clear hgt e0 e1 e2 e3 e4 e5 e6 e7
  go_enter Tryz.func25, Tryz.ntmps25
  go_wp2
  go_ret
  rw [HT.out]
  exact ⟨rfl, hal⟩
set_option linter.unusedVariables false
/-- The blocks of a group in which one member has done something. -/
theorem gall_put {G : Nat} {L : GL} {i : Nat} {q : ML} (hq : L.mem[i]? = some q) {a' : MA} {x : Nat} (h : x ∈ gall G (L.put i { q with a := a' })) : x ∈ gall G L ∨ x ∈ foot q.b a' := by
  have hqm := List.mem_of_getElem? hq
  rcases gall_cases h with rfl | rfl | hx | ⟨r, hr, hx⟩ | ⟨s, hs', hx⟩
  · exact .inl (gall_G _ _)
  · exact .inl (gall_ma _ _)
  · exact .inl (gall_na hx)
  · rcases mem_set_cases hr with rfl | hr
    · rcases hx with hx | rfl | hx
      · exact .inr hx
      · exact .inl (show q.v ∈ gall G L from gall_v hqm)
      · exact .inl (show x ∈ gall G L from gall_r (q := q) hqm hx)
    · rcases hx with hx | rfl | hx
      · exact .inl (gall_foot hr hx)
      · exact .inl (gall_v hr)
      · exact .inl (gall_r hr hx)
  · exact .inl (show x ∈ gall G L from gall_s (L := L) hs' hx)
/-- What a member says lies apart from the group. -/
theorem said_sep {w w' : World} {G : Nat} {L : GL} {g : Gr} (h : GAt w G L g) {i : Nat} {q : ML} (hq : L.mem[i]? = some q) {a' : MA} {B : Nat} (hB : w.heap.size ≤ B) (hf : ∀ x ∈ foot q.b a', x < B) {A : Option Addr} {c : Nat} {ms : List Ms} {sl : List (Option Addr × Nat)} (hms : MsAt w' B A c ms sl) :
    (∀ y ∈ blkOf A, y ∉ gall G (L.put i { q with a := a' })) ∧ (∀ s ∈ sl, ∀ y ∈ blkOf s.1, y ∉ gall G (L.put i { q with a := a' })) ∧ ∀ s ∈ sl, ∀ y ∈ blkOf s.1, w.heap.size ≤ y := by
  have hA : ∀ y, B ≤ y → y ∉ gall G (L.put i { q with a := a' }) := fun y hy hc => by
    rcases gall_put hq hc with h1 | h1
    · have := h.gltAll y h1; omega
    · have := hf y h1; omega
  have hS : ∀ s ∈ sl, ∀ y ∈ blkOf s.1, B ≤ y := fun s hs y hy => by
    obtain ⟨k, hk⟩ := List.getElem?_of_mem hs
    obtain ⟨hk1, hk2⟩ := List.getElem?_eq_some_iff.1 hk
    have := hms.ents k (by rw [← hms.len]; exact hk1)
    rw [List.getD_eq_getElem?_getD, hk] at this
    exact (own_blk this y hy).1
  exact ⟨fun y hy => hA y (own_blk hms.own y hy).1, fun s hs y hy => hA y (hS s hs y hy), fun s hs y hy => Nat.le_trans hB (hS s hs y hy)⟩
theorem at_idx {g : Gr} {i : Nat} {p : Mb × Vt} (hp : g.ms[i]? = some p) : g.at_ ((i : Int) + 1) = p := by
  unfold Gr.at_
  rw [show ((i : Int) + 1 - 1).toNat = i by omega, List.getD_eq_getElem?_getD, hp]
  rfl
theorem actsM_eq {g : Gr} {i : Nat} {p : Mb × Vt} (hp : g.ms[i]? = some p) (m : Mb) (said : List Ms) : (⟨g.ms.set i (m, p.2), g.net⟩ : Gr).actsM i (m, p.2) said = g.acts ((i : Int) + 1) m said := by
  unfold Gr.actsM Gr.acts Gr.anew Gr.set
  rw [at_idx hp, show ((i : Int) + 1 - 1).toNat = i by omega]
  simp only [List.set_set, List.length_set]
/-- What a member says is no more than the group is. -/
theorem gtoAll_le (id : Int) (f : Int → Ms) (n : Nat) : (Mb.toAll id f n).length ≤ n := by
  induction n with
  | zero => exact Nat.le_refl _
  | succ n ih =>
    rw [Mb.toAll, List.length_append]
    split
    · simp only [List.length_nil]; omega
    · simp only [List.length_singleton]; omega
theorem gadds_le {m : Mb} (h : MbOk m) : m.adds.length ≤ 16 := Nat.le_trans (gtoAll_le _ _ _) h.n16
theorem gasks_le {m : Mb} (h : MbOk m) : m.asks.length ≤ 16 := Nat.le_trans (gtoAll_le _ _ _) h.n16
theorem timeout_le {m : Mb} (h : MbOk m) : m.timeout.2.length ≤ 16 := by
  have hv := mayV_true h.ballot
  unfold Mb.timeout
  split
  · exact Nat.zero_le _
  · rename_i hn
    have hs := h.stand (by omega)
    split
    · exact gadds_le (hs.lead (by show 1 ≤ m.term + 1; omega))
    · exact gasks_le hs
theorem beat_le {m : Mb} (h : MbOk m) : m.beat.2.length ≤ 16 := by
  unfold Mb.beat
  simp only
  split
  · exact gadds_le h
  · exact Nat.zero_le _
theorem propose_le {m : Mb} (h : MbOk m) (c : Cm) : (m.propose c).2.2.1.length ≤ 16 := by
  unfold Mb.propose
  split
  · exact Nat.zero_le _
  · split
    · exact Nat.zero_le _
    · rename_i h1 _
      exact gadds_le (h.took (h.live (by omega)) c)
theorem hear_le {m : Mb} (h : MbOk m) (x : Ms) : (m.hear x).2.length ≤ 16 := by
  unfold Mb.hear
  split
  rotate_left 1
  · exact Nat.zero_le _
  rename_i hh
  unfold Mb.hears at hh
  rw [decide_eq_true_eq] at hh
  have hs := h.seen x (by omega)
  have hfr : 1 ≤ x.frm ∧ x.frm ≤ 16 := by have := h.n16; omega
  generalize m.seen x = s at *
  unfold Mb.acts
  split
  · simp [Mb.asked]
  split
  · unfold Mb.voted
    split
    · exact Nat.zero_le _
    · rename_i hn
      have ht : 1 ≤ s.term := hs.live (by omega)
      split
      · exact gadds_le ((hs.counted x hfr).lead ht)
      · exact Nat.zero_le _
  split
  · unfold Mb.add
    split
    · simp
    split
    · exact Nat.zero_le _
    split <;> simp
  · unfold Mb.added
    split
    · exact Nat.zero_le _
    split
    · simp
    split
    · exact Nat.zero_le _
    split <;> simp
/-- A member has done something, and acts. -/
theorem acts_said {w w' : World} {G : Nat} {L : GL} {g : Gr} (hgo : GrOk g) (h : GAt w G L g) {i : Nat} {q : ML} {p : Mb × Vt} (hq : L.mem[i]? = some q) (hp : g.ms[i]? = some p) {m' : Mb} {a' : MA} (hm' : InGr g.ms.length m') (hM : MAt w' q.b a' m') (hS : Step w q.b q.a w' a')
    {B : Nat} (hB : w.heap.size ≤ B) (hf : ∀ x ∈ foot q.b a', x < B) {A : Option Addr} {c : Nat} {said : List Ms} {sl : List (Option Addr × Nat)} (hms : MsAt w' B A c said sl) (hsl : said.length ≤ 16) (hnet : g.net.length ≤ 1000000) :
    Calls Tryz.prog 26 #[.pointer (some ⟨G, 0, none⟩), .int .i64 ((i : Int) + 1), .slice A said.length c] w' fun e w2 => e = .returned (.tuple #[]) ∧ ∃ L2, GAt w2 G L2 (g.acts ((i : Int) + 1) m' said) ∧ GStep w G L w2 L2 := by
  have hi : i < g.ms.length := (List.getElem?_eq_some_iff.1 hp).1
  have hpo := hgo.pair i p hp
  obtain ⟨h1, S1⟩ := h.step hq hp hM hS
  obtain ⟨s1, s2, s3⟩ := said_sep h hq hB hf hms
  have hmb : MsAt w' 0 A c said sl := hms.base (Nat.zero_le _)
  have hgk := (hpo.again hi hgo.n16).1
  have := acts_any h1 i (p := (m', p.2)) (by simp [hi]) (by simp only [List.length_set]; exact hgo.n16) hm'.mb hm'.wf hpo.vt hpo.le (by simp only [List.length_set]; exact hgk) hmb s1 s2 (B0 := w.heap.size) hS.chg.size s3 (by omega) hnet
  rw [actsM_eq hp] at this
  refine this.mono ?_
  rintro e w2 ⟨L2, rfl, h2, hC, hsub⟩
  refine ⟨rfl, L2, h2, S1.chg.trans hC S1.sub, fun x hx => ?_⟩
  rcases hsub x hx with h3 | h3
  · exact S1.sub x h3
  · exact .inr h3
end Go.Proofs.YthjdbmfobmnnlaaGreat
