/-
  A member puts an entry behind its log; what it knows of each is written.
-/
import Derived.Test.YtlejbhgginolgaaRaftF
namespace Go.Proofs.Ytlejbhgginolgaa
open Go.RowKit
set_option linter.unusedVariables false
abbrev cmV (c : Cm) : Value := .agg #[.int .i64 c.1, .int .i64 c.2.1, .int .i64 c.2.2.1, .int .i64 c.2.2.2.1, .int .i64 c.2.2.2.2.1, .int .i64 c.2.2.2.2.2]
theorem ownBlock_ne {A : Option Addr} {n c b : Nat} (h : ∀ x ∈ blkOf A, x ≠ b) : (Value.slice A n c).ownBlock ≠ some b := by
  intro e
  cases A with
  | none => cases e
  | some p => injection e with e; exact h p.block (by simp [blkOf]) e
theorem ownBlock_mem {A : Option Addr} {n c b : Nat} (h : (Value.slice A n c).ownBlock = some b) : b ∈ blkOf A := by
  cases A with
  | none => cases h
  | some p => injection h with h; subst h; simp [blkOf]
theorem mem_ownBlock {A : Option Addr} {n c b : Nat} (h : b ∈ blkOf A) : (Value.slice A n c).ownBlock = some b := by
  cases A with
  | none => cases h
  | some p => simp only [blkOf, List.mem_singleton] at h; subst h; rfl
/-- Its log has grown: the cell that holds it is written. -/
theorem MAt.grew {w w1 w2 : World} {b : Nat} {a : MA} {m : Mb} (h : MAt w b a m) (hb : Below w.heap.size w w1) (e : En) {A2 : Option Addr} {c2 : Nat} (hown : w2.ownsRow 0 47 7 (.slice A2 (m.log.length + 1) c2) (m.log.length + 1) (ensV m.log ++ enV e)) (hg : w1.grownBy w2 (Value.slice a.la m.log.length a.lc).ownBlock)
    (hat : (Value.slice A2 (m.log.length + 1) c2).ownBlock = (Value.slice a.la m.log.length a.lc).ownBlock ∨ (Value.slice A2 (m.log.length + 1) c2).ownBlock = some w1.heap.size) :
    MAt (w2.setCell ⟨b, 5, none⟩ (.slice A2 (m.log.length + 1) c2)) b { a with la := A2, lc := c2 } { m with log := m.log ++ [e] } ∧ Step w b a (w2.setCell ⟨b, 5, none⟩ (.slice A2 (m.log.length + 1) c2)) { a with la := A2, lc := c2 } := by
  have H1 := h.below hb
  obtain ⟨a1, a2, a3, a4, a5, a6⟩ := H1.apart
  have hsub : ∀ x ∈ blkOf A2, x ∈ blkOf a.la ∨ x = w1.heap.size := fun x hx => by
    have hx' := mem_ownBlock (n := m.log.length + 1) (c := c2) hx
    rcases hat with h2 | h2
    · rw [h2] at hx'; exact .inl (ownBlock_mem hx')
    · rw [h2] at hx'; injection hx' with hx'; exact .inr hx'.symm
  have hlt := H1.lt
  have hA : ∀ x ∈ blkOf A2, x ≠ b ∧ x ≠ a.vb ∧ x ≠ a.oa := fun x hx => by
    rcases hsub x hx with h3 | h3
    · exact ⟨a3 x h3, a5 x h3, a6 x h3⟩
    · have l1 := hlt b (foot_b b a)
      have l2 := hlt _ (foot_v b a)
      have l3 := hlt _ (foot_o b a)
      omega
  have hc : Chg (foot b a) w w2 := (Chg.of_below hb).grown hg fun x hx => .inl (foot_l (ownBlock_mem hx))
  have g2 : w2.heap[b]? = some (.cells (mbC m a) 66) := blk_grown hg H1.blk (ownBlock_ne a3)
  have v2 : VotesAt w2 a.vb m.votes := H1.votes.keep (hg.block _ H1.votes.lt fun e => a5 _ (ownBlock_mem e.symm) rfl)
  have o2 : w2.ownsRow 0 72 2 (.slice (some ⟨a.oa, 0, none⟩) m.prog.length a.oc) m.prog.length (prV m.prog) := by
    refine ⟨H1.prog.1, ?_⟩
    rcases H1.prog.2 with ⟨h2, _⟩ | ⟨g, cap, cur, hv, hgb, hh, r⟩
    · cases h2
    · refine .inr ⟨g, cap, cur, hv, hgb, ?_, r⟩
      injection hv with hv; injection hv with hv; injection hv with hv; subst hv
      rw [hg.block _ (blk_lt hh) fun e => a6 _ (ownBlock_mem e.symm) rfl]; exact hh
  have hl : (m.log ++ [e]).length = m.log.length + 1 := by simp
  refine ⟨⟨?_, ?_, v2.setCell a1 _ _, own_setFar o2 (fun x hx => by simp only [blkOf, List.mem_singleton] at hx; subst hx; exact a2) _ _⟩, hc.setCell (.inl (foot_b b a)) _ _, fun x hx => ?_⟩
  · have := blk_set (i := 5) g2 (.slice A2 (m.log.length + 1) c2)
    simp only [mbC, hl]
    exact this
  · simp only [hl, ensV_append, show ensV [e] = enV e by simp [ensV]]
    exact own_setFar hown (fun x hx => (hA x hx).1) _ _
  · simp only [foot, List.cons_append, List.nil_append, List.mem_cons] at hx
    rcases hx with rfl | rfl | rfl | hx
    · exact .inl (foot_b _ _)
    · exact .inl (foot_v _ _)
    · exact .inl (foot_o _ _)
    · rcases hsub x hx with h3 | h3
      · exact .inl (foot_l h3)
      · exact .inr (by have := hb.size; omega)
section
variable {w : World} {b : Nat} {a : MA} {m : Mb}
theorem put_full (h : MAt w b a m) (c : Cm) (hf : 64 ≤ m.log.length) : Calls Try.prog 30 #[.pointer (some ⟨b, 0, none⟩), cmV c] w (RetU (m.put c) b a (.bool false) w) := by
  rw [show m.put c = m from if_pos hf]
  obtain ⟨x0, x1, x2, x3, x4, x5⟩ := c
  have hal := below1 w (.cells #[.int .i64 x0, .int .i64 x1, .int .i64 x2, .int .i64 x3, .int .i64 x4, .int .i64 x5] 45)
  obtain ⟨c0, c1, c2, c3, c4, c5, c6, c7, c8, c9, hlt⟩ := box10 (h.below hal).blk
  have hf1 : (64 : Int) ≤ (m.log.length : Int) := by omega
  go_enter Try.func30, Try.ntmps30
  go_wp2
  go_ret
  exact ⟨a, rfl, h.below hal, .of_below hal⟩
set_option maxRecDepth 100000 in
set_option maxHeartbeats 6400000 in
theorem put_room (h : MAt w b a m) (c : Cm) (hf : m.log.length < 64) : Calls Try.prog 30 #[.pointer (some ⟨b, 0, none⟩), cmV c] w (RetU (m.put c) b a (.bool true) w) := by
  rw [show m.put c = { m with log := m.log ++ [(m.term, c)] } from if_neg (by omega)]
  obtain ⟨x0, x1, x2, x3, x4, x5⟩ := c
  have hal := below1 w (.cells #[.int .i64 x0, .int .i64 x1, .int .i64 x2, .int .i64 x3, .int .i64 x4, .int .i64 x5] 45)
  have H1 := h.below hal
  obtain ⟨c0, c1, c2, c3, c4, c5, c6, c7, c8, c9, hlt⟩ := box10 H1.blk
  have hf1 : (m.log.length : Int) < 64 := by omega
  have gB := blk_new w (.cells #[.int .i64 x0, .int .i64 x1, .int .i64 x2, .int .i64 x3, .int .i64 x4, .int .i64 x5] 45)
  have hnb : w.heap.size ∉ foot b a := h.new (Nat.le_refl _)
  go_enter Try.func30, Try.ntmps30
  go_wp2
  generalize w.alloc (.cells #[.int .i64 x0, .int .i64 x1, .int .i64 x2, .int .i64 x3, .int .i64 x4, .int .i64 x5] 45) = W at *
  obtain ⟨y0, y1, y2, y3, y4, y5, yl⟩ : W.cell? ⟨w.heap.size, 0, none⟩ = some (.int .i64 x0) ∧ W.cell? ⟨w.heap.size, 1, none⟩ = some (.int .i64 x1) ∧ W.cell? ⟨w.heap.size, 2, none⟩ = some (.int .i64 x2) ∧ W.cell? ⟨w.heap.size, 3, none⟩ = some (.int .i64 x3) ∧ W.cell? ⟨w.heap.size, 4, none⟩ = some (.int .i64 x4) ∧ W.cell? ⟨w.heap.size, 5, none⟩ = some (.int .i64 x5) ∧ w.heap.size < W.heap.size := ⟨blk_cell gB 0, blk_cell gB 1, blk_cell gB 2, blk_cell gB 3, blk_cell gB 4, blk_cell gB 5, blk_lt gB⟩
  go_region_law (first
    | (refine step_append_row rfl (.tmp 17) (.tmp 25) rfl elemE 0 (.slice a.la m.log.length a.lc) m.log.length (ensV m.log) (by rfl) (own_below H1.log ((below0 W).drew.alloc (Nat.le_refl _) _)) (some ⟨W.heap.size, 0, none⟩) 1 1 (enV (m.term, x0, x1, x2, x3, x4, x5)) (by rfl) (by rfl) (RowAt.new W.drew _ _) ?_ (by unfold maxLen; omega) (by omega) (Nat.zero_le _) (fun h => by cases h) ?_; (exact ensV_one [(m.term, x0, x1, x2, x3, x4, x5)]); intro A2 c2 w2 hown2 hg2 hat2; have G2 := blk_grown hg2 (blk_alloc (blk_drawn H1.blk) (.cells (enV (m.term, x0, x1, x2, x3, x4, x5)).toArray 47)) (ownBlock_ne H1.apart.2.2.1); obtain ⟨fr0, fr1, fr2, fr3, fr4, fr5, fr6, fr7, fr8, fr9⟩ := fro9 G2; have q5 := blk_cell G2 5; have q5l := blk_lt G2))
  all_goals go_wp2
  all_goals go_ret
  all_goals (
    obtain ⟨M2, S2⟩ := MAt.grew (w := W) H1 ((below0 W).drew.alloc (Nat.le_refl _) (.cells (enV (m.term, x0, x1, x2, x3, x4, x5)).toArray 47)) (m.term, x0, x1, x2, x3, x4, x5) hown2 hg2 hat2
    exact ⟨_, rfl, M2, S2.pre hal⟩)
end
section
variable {w : World} {b : Nat} {a : MA} {m : Mb}
theorem put_any (h : MAt w b a m) (c : Cm) : Calls Try.prog 30 #[.pointer (some ⟨b, 0, none⟩), cmV c] w (RetU (m.put c) b a (.bool (decide (m.log.length < 64))) w) := by
  by_cases hf : m.log.length < 64
  · rw [decide_eq_true hf]; exact put_room h c hf
  · rw [decide_eq_false hf]; exact put_full h c (by omega)
end
theorem own_setIn {w : World} {base : Nat} {e : TypeId} {size : Nat} {g n cap : Nat} {xs : List Value} (h : w.ownsRow base e size (.slice (some ⟨g, 0, none⟩) n cap) n xs) (i : Nat) (v : Value) : (w.setCell ⟨g, i, none⟩ v).ownsRow base e size (.slice (some ⟨g, 0, none⟩) n cap) n (xs.set i v) := by
  refine ⟨by rw [List.length_set]; exact h.1, ?_⟩
  rcases h.2 with ⟨h2, _⟩ | ⟨g', cap', cur, hv, hg, hh, hnc, hcm, hcs, hx⟩
  · cases h2
  · injection hv with hv h3 h4
    injection hv with hv
    injection hv with hv
    subst hv
    subst h4
    refine .inr ⟨g, cap, cur.setIfInBounds i v, rfl, hg, blk_set hh v, hnc, hcm, by rw [Array.size_setIfInBounds]; exact hcs, ?_⟩
    rw [Array.toList_setIfInBounds, List.take_set, hx]
theorem own_frozen {w : World} {base : Nat} {e : TypeId} {size : Nat} {g n cap : Nat} {xs : List Value} (h : w.ownsRow base e size (.slice (some ⟨g, 0, none⟩) n cap) n xs) (i : Nat) : w.frozen? ⟨g, i, none⟩ = false := by
  rcases h.2 with ⟨h2, _⟩ | ⟨g', cap', cur, hv, hg, hh, r⟩
  · cases h2
  · injection hv with hv; injection hv with hv; injection hv with hv; subst hv
    exact blk_frozen hh i
theorem own_cell {w : World} {base : Nat} {e : TypeId} {size : Nat} {g n cap : Nat} {xs : List Value} (h : w.ownsRow base e size (.slice (some ⟨g, 0, none⟩) n cap) n xs) {i : Nat} {u : Value} (hi : xs[i]? = some u) : w.cell? ⟨g, i, none⟩ = some u := by
  obtain ⟨b, off, hA, _, hc⟩ := (RowAt.of_own h).at hi
  cases hA
  rwa [Nat.zero_add] at hc
theorem prV_set1 {l : List (Int × Int)} {k : Nat} (hk : k < l.length) (x : Int) : prV (l.set k (x, (l[k]'hk).2)) = (prV l).set (k * 2) (.int .i64 x) := by
  induction l generalizing k with
  | nil => simp at hk
  | cons q l ih =>
    cases k with
    | zero => rfl
    | succ k =>
      have hk' : k < l.length := by simpa using hk
      have := ih hk'
      rw [List.set_cons_succ, prV_cons, prV_cons, show (k + 1) * 2 = k * 2 + 1 + 1 by omega, List.set_cons_succ, List.set_cons_succ, ← this]
      rfl
theorem prV_set2 {l : List (Int × Int)} {k : Nat} (hk : k < l.length) (x : Int) : prV (l.set k ((l[k]'hk).1, x)) = (prV l).set (k * 2 + 1) (.int .i64 x) := by
  induction l generalizing k with
  | nil => simp at hk
  | cons q l ih =>
    cases k with
    | zero => rfl
    | succ k =>
      have hk' : k < l.length := by simpa using hk
      have := ih hk'
      rw [List.set_cons_succ, prV_cons, prV_cons, show (k + 1) * 2 + 1 = k * 2 + 1 + 1 + 1 by omega, List.set_cons_succ, List.set_cons_succ, ← this]
      rfl
/-- A cell of what is known of each is written. -/
theorem MAt.setO {w : World} {b : Nat} {a : MA} {m : Mb} (h : MAt w b a m) (i : Nat) (v : Value) (l : List (Int × Int)) (hl : l.length = m.prog.length) (hv : prV l = (prV m.prog).set i v) : MAt (w.setCell ⟨a.oa, i, none⟩ v) b a { m with prog := l } := by
  obtain ⟨a1, a2, a3, a4, a5, a6⟩ := h.apart
  refine ⟨?_, own_setFar h.log a6 _ _, h.votes.setCell a4 _ _, ?_⟩
  · have := blk_far (i := i) h.blk (Ne.symm a2) v
    simp only [mbC, hl]
    exact this
  · have := own_setIn h.prog i v
    simp only [hl, hv]
    exact this
theorem prAt_at {m : Mb} {k : Nat} (hk : k < m.prog.length) : m.prAt ((k : Int) + 1) = m.prog[k]'hk := by
  unfold Mb.prAt
  rw [show ((k : Int) + 1 - 1).toNat = k by omega, List.getD_eq_getElem?_getD, List.getElem?_eq_getElem hk]
  rfl
theorem MAt.setMatch {w : World} {b : Nat} {a : MA} {m : Mb} (h : MAt w b a m) (k : Nat) (hk : k < m.prog.length) (x : Int) : MAt (w.setCell ⟨a.oa, k * 2, none⟩ (.int .i64 x)) b a (m.setPr ((k : Int) + 1) (x, (m.prAt ((k : Int) + 1)).2)) := by
  have := h.setO (k * 2) (.int .i64 x) (m.prog.set k (x, (m.prog[k]'hk).2)) (List.length_set ..) (prV_set1 hk x)
  rw [prAt_at hk]
  unfold Mb.setPr
  rw [show ((k : Int) + 1 - 1).toNat = k by omega]
  exact this
theorem MAt.setNext {w : World} {b : Nat} {a : MA} {m : Mb} (h : MAt w b a m) (k : Nat) (hk : k < m.prog.length) (x : Int) : MAt (w.setCell ⟨a.oa, k * 2 + 1, none⟩ (.int .i64 x)) b a (m.setPr ((k : Int) + 1) ((m.prAt ((k : Int) + 1)).1, x)) := by
  have := h.setO (k * 2 + 1) (.int .i64 x) (m.prog.set k ((m.prog[k]'hk).1, x)) (List.length_set ..) (prV_set2 hk x)
  rw [prAt_at hk]
  unfold Mb.setPr
  rw [show ((k : Int) + 1 - 1).toNat = k by omega]
  exact this
theorem setPr_twice (m : Mb) (k : Int) (p q : Int × Int) : (m.setPr k p).setPr k q = m.setPr k q := by
  unfold Mb.setPr
  simp only [List.set_set]
theorem setPr_at {m : Mb} {k : Nat} (hk : k < m.prog.length) (p : Int × Int) : (m.setPr ((k : Int) + 1) p).prAt ((k : Int) + 1) = p := by
  unfold Mb.setPr Mb.prAt
  rw [show ((k : Int) + 1 - 1).toNat = k by omega, List.getD_eq_getElem?_getD, List.getElem?_set_self hk]
  rfl
theorem MAt.setPr {w : World} {b : Nat} {a : MA} {m : Mb} (h : MAt w b a m) (k : Nat) (hk : k < m.prog.length) (p : Int × Int) : MAt ((w.setCell ⟨a.oa, k * 2, none⟩ (.int .i64 p.1)).setCell ⟨a.oa, k * 2 + 1, none⟩ (.int .i64 p.2)) b a (m.setPr ((k : Int) + 1) p) := by
  have h1 := h.setMatch k hk p.1
  have hk' : k < (m.setPr ((k : Int) + 1) (p.1, (m.prAt ((k : Int) + 1)).2)).prog.length := by simpa [Mb.setPr] using hk
  have h2 := h1.setNext k hk' p.2
  rw [setPr_at hk, setPr_twice] at h2
  exact h2
theorem Step.storeO {w w1 : World} {b : Nat} {a a1 : MA} (h : Step w b a w1 a1) (i : Nat) (v : Value) : Step w b a (w1.setCell ⟨a1.oa, i, none⟩ v) a1 := ⟨h.chg.setCell (h.sub _ (foot_o b a1)) i v, h.sub⟩
/-- What is known of the first so many is as it is when one begins to lead. -/
def clearTo (m : Mb) (L : Int) (k : Nat) : Mb := { m with role := 2, prog := List.replicate k (0, L) ++ m.prog.drop k }
theorem clearTo_zero (m : Mb) (L : Int) : clearTo m L 0 = { m with role := 2 } := by simp [clearTo]
theorem clearTo_len (m : Mb) (L : Int) (k : Nat) (hk : k ≤ m.prog.length) : (clearTo m L k).prog.length = m.prog.length := by simp [clearTo]; omega
theorem clearTo_succ (m : Mb) (L : Int) (k : Nat) (hk : k < m.prog.length) : (clearTo m L k).setPr ((k : Int) + 1) (0, L) = clearTo m L (k + 1) := by
  unfold clearTo Mb.setPr
  simp only [Mb.mk.injEq, true_and]
  rw [show ((k : Int) + 1 - 1).toNat = k by omega, List.set_append, if_neg (by simp), List.length_replicate, Nat.sub_self, List.drop_eq_getElem_cons hk, List.set_cons_zero, List.replicate_succ', List.append_assoc]
  rfl
theorem clearTo_all (m : Mb) : clearTo m ((lastF 0 0 m.log).1 + 1) m.prog.length = m.clear := by
  unfold clearTo Mb.clear
  simp [List.map_const']
end Go.Proofs.Ytlejbhgginolgaa
