/-
  Bg: several texts in one.
-/
import Derived.Test.YthjdbmfobmnnlaaGreatBf
/-
  A member puts an entry behind its log; what it knows of each is written.
-/
namespace Go.Proofs.YthjdbmfobmnnlaaGreat
open Go.RowKit
set_option linter.unusedVariables false
abbrev cmV (c : Cm) : Value := .agg #[.int .i64 c.1, .int .i64 c.2.1, .int .i64 c.2.2.1, .int .i64 c.2.2.2.1, .int .i64 c.2.2.2.2.1, .int .i64 c.2.2.2.2.2]
theorem ownBlock_ne {A : Option Addr} {n c b : Nat} (h : ∀ x ∈ blkOf A, x ≠ b) : (Value.slice A n c).ownBlock ≠ some b := by
  intro e
  cases A with
  | none => cases e
  | some p => injection e with e; exact h p.block (by simp [blkOf]) e
theorem ownBlock_mem {A : Option Addr} {n c b : Nat} (h : (Value.slice A n c).ownBlock = some b) : b ∈ blkOf A := by
  cases A with
  | none => cases h
  | some p => injection h with h; subst h; simp [blkOf]
theorem mem_ownBlock {A : Option Addr} {n c b : Nat} (h : b ∈ blkOf A) : (Value.slice A n c).ownBlock = some b := by
  cases A with
  | none => cases h
  | some p => simp only [blkOf, List.mem_singleton] at h; subst h; rfl
/-- Its log has grown: the cell that holds it is written. -/
theorem MAt.grew {w w1 w2 : World} {b : Nat} {a : MA} {m : Mb} (h : MAt w b a m) (hb : Below w.heap.size w w1) (e : En) {A2 : Option Addr} {c2 : Nat} (hown : w2.ownsRow 0 82 7 (.slice A2 (m.log.length + 1) c2) (m.log.length + 1) (ensV m.log ++ enV e)) (hg : w1.grownBy w2 (Value.slice a.la m.log.length a.lc).ownBlock)
    (hat : (Value.slice A2 (m.log.length + 1) c2).ownBlock = (Value.slice a.la m.log.length a.lc).ownBlock ∨ (Value.slice A2 (m.log.length + 1) c2).ownBlock = some w1.heap.size) :
    MAt (w2.setCell ⟨b, 5, none⟩ (.slice A2 (m.log.length + 1) c2)) b { a with la := A2, lc := c2 } { m with log := m.log ++ [e] } ∧ Step w b a (w2.setCell ⟨b, 5, none⟩ (.slice A2 (m.log.length + 1) c2)) { a with la := A2, lc := c2 } := by
  have H1 := h.below hb
  obtain ⟨a1, a2, a3, a4, a5, a6⟩ := H1.apart
  have hsub : ∀ x ∈ blkOf A2, x ∈ blkOf a.la ∨ x = w1.heap.size := fun x hx => by
    have hx' := mem_ownBlock (n := m.log.length + 1) (c := c2) hx
    rcases hat with h2 | h2
    · rw [h2] at hx'; exact .inl (ownBlock_mem hx')
    · rw [h2] at hx'; injection hx' with hx'; exact .inr hx'.symm
  have hlt := H1.lt
  have hA : ∀ x ∈ blkOf A2, x ≠ b ∧ x ≠ a.vb ∧ x ≠ a.oa := fun x hx => by
    rcases hsub x hx with h3 | h3
    · exact ⟨a3 x h3, a5 x h3, a6 x h3⟩
    · have l1 := hlt b (foot_b b a)
      have l2 := hlt _ (foot_v b a)
      have l3 := hlt _ (foot_o b a)
      omega
  have hc : Chg (foot b a) w w2 := (Chg.of_below hb).grown hg fun x hx => .inl (foot_l (ownBlock_mem hx))
  have g2 : w2.heap[b]? = some (.cells (mbC m a) 126) := blk_grown hg H1.blk (ownBlock_ne a3)
  have v2 : VotesAt w2 a.vb m.votes := H1.votes.keep (hg.block _ H1.votes.lt fun e => a5 _ (ownBlock_mem e.symm) rfl)
  have o2 : w2.ownsRow 0 183 2 (.slice (some ⟨a.oa, 0, none⟩) m.prog.length a.oc) m.prog.length (prV m.prog) := by
    refine ⟨H1.prog.1, ?_⟩
    rcases H1.prog.2 with ⟨h2, _⟩ | ⟨g, cap, cur, hv, hgb, hh, r⟩
    · cases h2
    · refine .inr ⟨g, cap, cur, hv, hgb, ?_, r⟩
      injection hv with hv; injection hv with hv; injection hv with hv; subst hv
      rw [hg.block _ (blk_lt hh) fun e => a6 _ (ownBlock_mem e.symm) rfl]; exact hh
  have hl : (m.log ++ [e]).length = m.log.length + 1 := by simp
  refine ⟨⟨?_, ?_, v2.setCell a1 _ _, own_setFar o2 (fun x hx => by simp only [blkOf, List.mem_singleton] at hx; subst hx; exact a2) _ _⟩, hc.setCell (.inl (foot_b b a)) _ _, fun x hx => ?_⟩
  · have := blk_set (i := 5) g2 (.slice A2 (m.log.length + 1) c2)
    simp only [mbC, hl]
    exact this
  · simp only [hl, ensV_append, show ensV [e] = enV e by simp [ensV]]
    exact own_setFar hown (fun x hx => (hA x hx).1) _ _
  · simp only [foot, List.cons_append, List.nil_append, List.mem_cons] at hx
    rcases hx with rfl | rfl | rfl | hx
    · exact .inl (foot_b _ _)
    · exact .inl (foot_v _ _)
    · exact .inl (foot_o _ _)
    · rcases hsub x hx with h3 | h3
      · exact .inl (foot_l h3)
      · exact .inr (by have := hb.size; omega)
section
variable {w : World} {b : Nat} {a : MA} {m : Mb}
theorem put_full (h : MAt w b a m) (c : Cm) (hf : 64 ≤ m.log.length) : Calls Tryz.prog 115 #[.pointer (some ⟨b, 0, none⟩), cmV c] w (RetU (m.put c) b a (.bool false) w) := by
  rw [show m.put c = m from if_pos hf]
  obtain ⟨x0, x1, x2, x3, x4, x5⟩ := c
  have hal := below1 w (.cells #[.int .i64 x0, .int .i64 x1, .int .i64 x2, .int .i64 x3, .int .i64 x4, .int .i64 x5] 80)
  obtain ⟨c0, c1, c2, c3, c4, c5, c6, c7, c8, c9, hlt⟩ := box10 (h.below hal).blk
  have hf1 : (64 : Int) ≤ (m.log.length : Int) := by omega
  go_enter Tryz.func115, Tryz.ntmps115
  go_wp2
  go_ret
  exact ⟨a, rfl, h.below hal, .of_below hal⟩
set_option maxRecDepth 100000 in
set_option maxHeartbeats 6400000 in
theorem put_room (h : MAt w b a m) (c : Cm) (hf : m.log.length < 64) : Calls Tryz.prog 115 #[.pointer (some ⟨b, 0, none⟩), cmV c] w (RetU (m.put c) b a (.bool true) w) := by
  rw [show m.put c = { m with log := m.log ++ [(m.term, c)] } from if_neg (by omega)]
  obtain ⟨x0, x1, x2, x3, x4, x5⟩ := c
  have hal := below1 w (.cells #[.int .i64 x0, .int .i64 x1, .int .i64 x2, .int .i64 x3, .int .i64 x4, .int .i64 x5] 80)
  have H1 := h.below hal
  obtain ⟨c0, c1, c2, c3, c4, c5, c6, c7, c8, c9, hlt⟩ := box10 H1.blk
  have hf1 : (m.log.length : Int) < 64 := by omega
  have gB := blk_new w (.cells #[.int .i64 x0, .int .i64 x1, .int .i64 x2, .int .i64 x3, .int .i64 x4, .int .i64 x5] 80)
  have hnb : w.heap.size ∉ foot b a := h.new (Nat.le_refl _)
  go_enter Tryz.func115, Tryz.ntmps115
  go_wp2
  generalize w.alloc (.cells #[.int .i64 x0, .int .i64 x1, .int .i64 x2, .int .i64 x3, .int .i64 x4, .int .i64 x5] 80) = W at *
  obtain ⟨y0, y1, y2, y3, y4, y5, yl⟩ : W.cell? ⟨w.heap.size, 0, none⟩ = some (.int .i64 x0) ∧ W.cell? ⟨w.heap.size, 1, none⟩ = some (.int .i64 x1) ∧ W.cell? ⟨w.heap.size, 2, none⟩ = some (.int .i64 x2) ∧ W.cell? ⟨w.heap.size, 3, none⟩ = some (.int .i64 x3) ∧ W.cell? ⟨w.heap.size, 4, none⟩ = some (.int .i64 x4) ∧ W.cell? ⟨w.heap.size, 5, none⟩ = some (.int .i64 x5) ∧ w.heap.size < W.heap.size := ⟨blk_cell gB 0, blk_cell gB 1, blk_cell gB 2, blk_cell gB 3, blk_cell gB 4, blk_cell gB 5, blk_lt gB⟩
  go_region_law (first
    | (refine step_append_row rfl (.tmp 17) (.tmp 25) rfl elemE 0 (.slice a.la m.log.length a.lc) m.log.length (ensV m.log) (by rfl) (own_below H1.log ((below0 W).drew.alloc (Nat.le_refl _) _)) (some ⟨W.heap.size, 0, none⟩) 1 1 (enV (m.term, x0, x1, x2, x3, x4, x5)) (by rfl) (by rfl) (RowAt.new W.drew _ _) ?_ (by unfold maxLen; omega) (by omega) (Nat.zero_le _) (fun h => by cases h) ?_; (exact ensV_one [(m.term, x0, x1, x2, x3, x4, x5)]); intro A2 c2 w2 hown2 hg2 hat2; have G2 := blk_grown hg2 (blk_alloc (blk_drawn H1.blk) (.cells (enV (m.term, x0, x1, x2, x3, x4, x5)).toArray 82)) (ownBlock_ne H1.apart.2.2.1); obtain ⟨fr0, fr1, fr2, fr3, fr4, fr5, fr6, fr7, fr8, fr9⟩ := fro9 G2; have q5 := blk_cell G2 5; have q5l := blk_lt G2))
  all_goals go_wp2
  all_goals go_ret
  all_goals (
    obtain ⟨M2, S2⟩ := MAt.grew (w := W) H1 ((below0 W).drew.alloc (Nat.le_refl _) (.cells (enV (m.term, x0, x1, x2, x3, x4, x5)).toArray 82)) (m.term, x0, x1, x2, x3, x4, x5) hown2 hg2 hat2
    exact ⟨_, rfl, M2, S2.pre hal⟩)
end
section
variable {w : World} {b : Nat} {a : MA} {m : Mb}
theorem mput_any (h : MAt w b a m) (c : Cm) : Calls Tryz.prog 115 #[.pointer (some ⟨b, 0, none⟩), cmV c] w (RetU (m.put c) b a (.bool (decide (m.log.length < 64))) w) := by
  by_cases hf : m.log.length < 64
  · rw [decide_eq_true hf]; exact put_room h c hf
  · rw [decide_eq_false hf]; exact put_full h c (by omega)
end
theorem own_setIn {w : World} {base : Nat} {e : TypeId} {size : Nat} {g n cap : Nat} {xs : List Value} (h : w.ownsRow base e size (.slice (some ⟨g, 0, none⟩) n cap) n xs) (i : Nat) (v : Value) : (w.setCell ⟨g, i, none⟩ v).ownsRow base e size (.slice (some ⟨g, 0, none⟩) n cap) n (xs.set i v) := by
  refine ⟨by rw [List.length_set]; exact h.1, ?_⟩
  rcases h.2 with ⟨h2, _⟩ | ⟨g', cap', cur, hv, hg, hh, hnc, hcm, hcs, hx⟩
  · cases h2
  · injection hv with hv h3 h4
    injection hv with hv
    injection hv with hv
    subst hv
    subst h4
    refine .inr ⟨g, cap, cur.setIfInBounds i v, rfl, hg, blk_set hh v, hnc, hcm, by rw [Array.size_setIfInBounds]; exact hcs, ?_⟩
    rw [Array.toList_setIfInBounds, List.take_set, hx]
theorem own_frozen {w : World} {base : Nat} {e : TypeId} {size : Nat} {g n cap : Nat} {xs : List Value} (h : w.ownsRow base e size (.slice (some ⟨g, 0, none⟩) n cap) n xs) (i : Nat) : w.frozen? ⟨g, i, none⟩ = false := by
  rcases h.2 with ⟨h2, _⟩ | ⟨g', cap', cur, hv, hg, hh, r⟩
  · cases h2
  · injection hv with hv; injection hv with hv; injection hv with hv; subst hv
    exact blk_frozen hh i
theorem own_cell {w : World} {base : Nat} {e : TypeId} {size : Nat} {g n cap : Nat} {xs : List Value} (h : w.ownsRow base e size (.slice (some ⟨g, 0, none⟩) n cap) n xs) {i : Nat} {u : Value} (hi : xs[i]? = some u) : w.cell? ⟨g, i, none⟩ = some u := by
  obtain ⟨b, off, hA, _, hc⟩ := (RowAt.of_own h).at hi
  cases hA
  rwa [Nat.zero_add] at hc
theorem prV_set1 {l : List (Int × Int)} {k : Nat} (hk : k < l.length) (x : Int) : prV (l.set k (x, (l[k]'hk).2)) = (prV l).set (k * 2) (.int .i64 x) := by
  induction l generalizing k with
  | nil => simp at hk
  | cons q l ih =>
    cases k with
    | zero => rfl
    | succ k =>
      have hk' : k < l.length := by simpa using hk
      have := ih hk'
      rw [List.set_cons_succ, prV_cons, prV_cons, show (k + 1) * 2 = k * 2 + 1 + 1 by omega, List.set_cons_succ, List.set_cons_succ, ← this]
      rfl
theorem prV_set2 {l : List (Int × Int)} {k : Nat} (hk : k < l.length) (x : Int) : prV (l.set k ((l[k]'hk).1, x)) = (prV l).set (k * 2 + 1) (.int .i64 x) := by
  induction l generalizing k with
  | nil => simp at hk
  | cons q l ih =>
    cases k with
    | zero => rfl
    | succ k =>
      have hk' : k < l.length := by simpa using hk
      have := ih hk'
      rw [List.set_cons_succ, prV_cons, prV_cons, show (k + 1) * 2 + 1 = k * 2 + 1 + 1 + 1 by omega, List.set_cons_succ, List.set_cons_succ, ← this]
      rfl
/-- A cell of what is known of each is written. -/
theorem MAt.setO {w : World} {b : Nat} {a : MA} {m : Mb} (h : MAt w b a m) (i : Nat) (v : Value) (l : List (Int × Int)) (hl : l.length = m.prog.length) (hv : prV l = (prV m.prog).set i v) : MAt (w.setCell ⟨a.oa, i, none⟩ v) b a { m with prog := l } := by
  obtain ⟨a1, a2, a3, a4, a5, a6⟩ := h.apart
  refine ⟨?_, own_setFar h.log a6 _ _, h.votes.setCell a4 _ _, ?_⟩
  · have := blk_far (i := i) h.blk (Ne.symm a2) v
    simp only [mbC, hl]
    exact this
  · have := own_setIn h.prog i v
    simp only [hl, hv]
    exact this
theorem prAt_at {m : Mb} {k : Nat} (hk : k < m.prog.length) : m.prAt ((k : Int) + 1) = m.prog[k]'hk := by
  unfold Mb.prAt
  rw [show ((k : Int) + 1 - 1).toNat = k by omega, List.getD_eq_getElem?_getD, List.getElem?_eq_getElem hk]
  rfl
theorem MAt.setMatch {w : World} {b : Nat} {a : MA} {m : Mb} (h : MAt w b a m) (k : Nat) (hk : k < m.prog.length) (x : Int) : MAt (w.setCell ⟨a.oa, k * 2, none⟩ (.int .i64 x)) b a (m.setPr ((k : Int) + 1) (x, (m.prAt ((k : Int) + 1)).2)) := by
  have := h.setO (k * 2) (.int .i64 x) (m.prog.set k (x, (m.prog[k]'hk).2)) (List.length_set ..) (prV_set1 hk x)
  rw [prAt_at hk]
  unfold Mb.setPr
  rw [show ((k : Int) + 1 - 1).toNat = k by omega]
  exact this
theorem MAt.setNext {w : World} {b : Nat} {a : MA} {m : Mb} (h : MAt w b a m) (k : Nat) (hk : k < m.prog.length) (x : Int) : MAt (w.setCell ⟨a.oa, k * 2 + 1, none⟩ (.int .i64 x)) b a (m.setPr ((k : Int) + 1) ((m.prAt ((k : Int) + 1)).1, x)) := by
  have := h.setO (k * 2 + 1) (.int .i64 x) (m.prog.set k ((m.prog[k]'hk).1, x)) (List.length_set ..) (prV_set2 hk x)
  rw [prAt_at hk]
  unfold Mb.setPr
  rw [show ((k : Int) + 1 - 1).toNat = k by omega]
  exact this
theorem setPr_twice (m : Mb) (k : Int) (p q : Int × Int) : (m.setPr k p).setPr k q = m.setPr k q := by
  unfold Mb.setPr
  simp only [List.set_set]
theorem setPr_at {m : Mb} {k : Nat} (hk : k < m.prog.length) (p : Int × Int) : (m.setPr ((k : Int) + 1) p).prAt ((k : Int) + 1) = p := by
  unfold Mb.setPr Mb.prAt
  rw [show ((k : Int) + 1 - 1).toNat = k by omega, List.getD_eq_getElem?_getD, List.getElem?_set_self hk]
  rfl
theorem MAt.setPr {w : World} {b : Nat} {a : MA} {m : Mb} (h : MAt w b a m) (k : Nat) (hk : k < m.prog.length) (p : Int × Int) : MAt ((w.setCell ⟨a.oa, k * 2, none⟩ (.int .i64 p.1)).setCell ⟨a.oa, k * 2 + 1, none⟩ (.int .i64 p.2)) b a (m.setPr ((k : Int) + 1) p) := by
  have h1 := h.setMatch k hk p.1
  have hk' : k < (m.setPr ((k : Int) + 1) (p.1, (m.prAt ((k : Int) + 1)).2)).prog.length := by simpa [Mb.setPr] using hk
  have h2 := h1.setNext k hk' p.2
  rw [setPr_at hk, setPr_twice] at h2
  exact h2
theorem Step.storeO {w w1 : World} {b : Nat} {a a1 : MA} (h : Step w b a w1 a1) (i : Nat) (v : Value) : Step w b a (w1.setCell ⟨a1.oa, i, none⟩ v) a1 := ⟨h.chg.setCell (h.sub _ (foot_o b a1)) i v, h.sub⟩
/-- What is known of the first so many is as it is when one begins to lead. -/
def clearTo (m : Mb) (L : Int) (k : Nat) : Mb := { m with role := 2, prog := List.replicate k (0, L) ++ m.prog.drop k }
theorem clearTo_zero (m : Mb) (L : Int) : clearTo m L 0 = { m with role := 2 } := by simp [clearTo]
theorem clearTo_len (m : Mb) (L : Int) (k : Nat) (hk : k ≤ m.prog.length) : (clearTo m L k).prog.length = m.prog.length := by simp [clearTo]; omega
theorem clearTo_succ (m : Mb) (L : Int) (k : Nat) (hk : k < m.prog.length) : (clearTo m L k).setPr ((k : Int) + 1) (0, L) = clearTo m L (k + 1) := by
  unfold clearTo Mb.setPr
  simp only [Mb.mk.injEq, true_and]
  rw [show ((k : Int) + 1 - 1).toNat = k by omega, List.set_append, if_neg (by simp), List.length_replicate, Nat.sub_self, List.drop_eq_getElem_cons hk, List.set_cons_zero, List.replicate_succ', List.append_assoc]
  rfl
theorem clearTo_all (m : Mb) : clearTo m ((lastF 0 0 m.log).1 + 1) m.prog.length = m.clear := by
  unfold clearTo Mb.clear
  simp [List.map_const']
end Go.Proofs.YthjdbmfobmnnlaaGreat

/-
  A member begins to lead.
-/
namespace Go.Proofs.YthjdbmfobmnnlaaGreat
open Go.RowKit
set_option linter.unusedVariables false
theorem MAt.c9 {w : World} {b : Nat} {a : MA} {m : Mb} (h : MAt w b a m) {n : Nat} (hl : m.prog.length = n) : w.cell? ⟨b, 9, none⟩ = some (.slice (some ⟨a.oa, 0, none⟩) n a.oc) := by subst hl; exact blk_cell h.blk 9
theorem MAt.c0 {w : World} {b : Nat} {a : MA} {m : Mb} (h : MAt w b a m) {i : Int} (hl : m.id = i) : w.cell? ⟨b, 0, none⟩ = some (.int .i64 i) := by subst hl; exact blk_cell h.blk 0
section
variable {w : World} {b : Nat} {a : MA} {m : Mb}
set_option maxRecDepth 100000 in
set_option maxHeartbeats 6400000 in
theorem lead_any (h : MAt w b a m) (hok : MbOk m) (ht : 1 ≤ m.term) : Calls Tryz.prog 63 #[.pointer (some ⟨b, 0, none⟩)] w (RetR m.lead m.lead.adds b a w) := by
  have n1 := hok.n1
  have n16 := hok.n16
  obtain ⟨id0, hid⟩ : ∃ i : Nat, m.id = (i : Int) + 1 := ⟨(m.id - 1).toNat, by have := hok.id1; omega⟩
  have hidn : id0 < m.prog.length := by have := hok.idn; omega
  have HLT : Hid (∀ W (mk : Mb), MAt W b a mk → mk.log = m.log → Calls Tryz.prog 114 #[.pointer (some ⟨b, 0, none⟩)] W fun e w' => e = .returned (.int .i64 (lastF 0 0 m.log).1) ∧ Below W.heap.size W w') := fun W mk hW hl => by have := mlast_any hW; rwa [hl] at this
  have hX : 0 ≤ (lastF 0 0 m.log).1 ∧ (lastF 0 0 m.log).1 ≤ 64 := by rw [hok.lastF]; have := hok.len64; simp only; omega
  have HCL := Lib.hid (clearTo_all m)
  have hs0 := h.store 6 (.int .i64 2) (m' := { m with role := 2 }) rfl rfl rfl rfl
  rw [← clearTo_zero m ((lastF 0 0 m.log).1 + 1)] at hs0
  have hst0 : Step w b a (w.setCell ⟨b, 6, none⟩ (.int .i64 2)) a := (Step.refl w b a).store 6 _
  generalize (lastF 0 0 m.log).1 = X at HLT hX HCL hs0
  obtain ⟨hX0, hX1⟩ := hX
  have HS0 := Lib.hid hs0
  clear hs0
  have HID := Lib.hid hid
  clear hid
  obtain ⟨c0, c1, c2, c3, c4, c5, c6, c7, c8, c9, hlt⟩ := box10 h.blk
  obtain ⟨fr0, fr1, fr2, fr3, fr4, fr5, fr6, fr7, fr8, fr9⟩ := fro9 h.blk
  go_enter Tryz.func63, Tryz.ntmps63
  go_wp2
  clear c0 c1 c2 c3 c4 c5 c6 c7 c8 c9 hlt fr0 fr1 fr2 fr3 fr4 fr5 fr6 fr7 fr8 fr9
  go_loopw [12] (fun i wr => ∃ k : Nat, k ≤ m.prog.length ∧ i = .int .i64 (k : Int) ∧ Hid (MAt wr b a (clearTo m (X + 1) k)) ∧ Step w b a wr a) (fun i _ => m.prog.length - (intOf i).toNat)
  case atStart => exact ⟨0, by omega, rfl, HS0, hst0⟩
  case round =>
    obtain ⟨k, hk, rfl, HM, hst⟩ := hrel
    by_cases hlt : k < m.prog.length
    · have hlk := clearTo_len m (X + 1) k (by omega)
      have HSUC := Lib.hid (clearTo_succ m (X + 1) k hlt)
      have HB1 := Lib.hid HM.out.blk
      have hblk : wr.heap[b]? = some (.cells #[.int .i64 m.id, .int .i64 m.term, .int .i64 m.vote, .int .i64 0, .int .i64 0, .slice a.la m.log.length a.lc, .int .i64 2, .int .i64 m.settled, .map (some a.vb), .slice (some ⟨a.oa, 0, none⟩) m.prog.length a.oc] 126) := by have := HB1.out; simp only [mbC, hlk] at this; exact this
      obtain ⟨c0, c1, c2, c3, c4, c5, c6, c7, c8, c9, hltb⟩ := box10 hblk
      have HLK := Lib.hid hlk
      clear hblk hlk
      have hk0 : (0 : Int) ≤ (k : Int) := by omega
      have hk1 : (k : Int) < (m.prog.length : Int) := by omega
      have hk2 : (k : Int) ≤ 16 := by omega
      have HL1 := Lib.hid (HLT.out wr.drew (clearTo m (X + 1) k) HM.out.drew rfl)
      have hwr : IntKind.i64.wrap (X + 1) = X + 1 := wrap_id (by omega) (by omega)
      go_wp2
      go_region_law (first
        | (go_simp; go_at_call 114; refine HL1.out.mono ?_; rintro e w1 ⟨rfl, hb1⟩; have H1 := HM.out.drew.below hb1; have d9 := H1.c9 HLK.out; have fo0 := own_frozen H1.prog (k * 2); have fo1 := own_frozen H1.prog (k * 2 + 1); have co0 := own_cell H1.prog (prV_at (k := k) (by rw [HLK.out]; exact hlt)).1; have co1 := own_cell H1.prog (prV_at (k := k) (by rw [HLK.out]; exact hlt)).2; (try go_simp)))
      all_goals go_wp2
      all_goals (
        have HM2 := H1.setPr k (by rw [HLK.out]; exact hlt) (0, X + 1)
        rw [HSUC.out] at HM2
        have HM3 := Lib.hid HM2
        have hst2 := ((((hst.drew).below hb1).storeO (k * 2) (.int .i64 0)).storeO (k * 2 + 1) (.int .i64 (X + 1)))
        go_roundw
        case rel => exact ⟨k + 1, by omega, by go_num, HM3, hst2⟩
        case measure => simp [intOf]; omega)
    · have hk' : k = m.prog.length := by omega
      subst hk'
      rw [HCL.out] at HM
      have HOKC := Lib.hid (hok.clear ht)
      have HPUT := Lib.hid (mput_any HM.out (0, 0, 0, 0, 0, 0))
      clear HLT
      go_wp2_with (go_at_call 115; refine HPUT.out.mono ?_; rintro e w1 ⟨a1, rfl, H1, S1⟩)
      have HOKP := Lib.hid (HOKC.out.put ht (0, 0, 0, 0, 0, 0))
      have hlp : (m.clear.put (0, 0, 0, 0, 0, 0)).prog.length = m.prog.length := by unfold Mb.put; split <;> simp [Mb.clear]
      have hidp : (m.clear.put (0, 0, 0, 0, 0, 0)).id = m.id := by unfold Mb.put; split <;> rfl
      rw [HID.out] at hidp
      have HMARK : Hid ((m.clear.put (0, 0, 0, 0, 0, 0)).mark = (m.clear.put (0, 0, 0, 0, 0, 0)).setPr ((id0 : Int) + 1) ((lastF 0 0 (m.clear.put (0, 0, 0, 0, 0, 0)).log).1, ((m.clear.put (0, 0, 0, 0, 0, 0)).prAt ((id0 : Int) + 1)).2)) := by rw [Hid, ← hidp]; rfl
      have hX2 : 0 ≤ (lastF 0 0 (m.clear.put (0, 0, 0, 0, 0, 0)).log).1 ∧ (lastF 0 0 (m.clear.put (0, 0, 0, 0, 0, 0)).log).1 ≤ 64 := by rw [HOKP.out.lastF]; have := HOKP.out.len64; simp only; omega
      have HLEAD : Hid (m.lead = ((m.clear.put (0, 0, 0, 0, 0, 0)).mark).settle) := rfl
      have HLT2 := Lib.hid (mlast_any (H1.drew))
      generalize m.clear.put (0, 0, 0, 0, 0, 0) = mp at *
      obtain ⟨hX2, hX3⟩ := hX2
      have hc0 : w1.cell? ⟨b, 0, none⟩ = some (.int .i64 ((id0 : Int) + 1)) := H1.c0 hidp
      have hc9 := H1.c9 hlp
      have hbl := blk_lt H1.blk
      have hi0 : (0 : Int) ≤ (id0 : Int) := by omega
      have hi1 : (id0 : Int) < (m.prog.length : Int) := by omega
      have hi2 : (id0 : Int) + 1 ≤ 16 := by omega
      have HIDP := Lib.hid hidp
      have HLP := Lib.hid hlp
      clear hidp hlp
      have hwr2 : IntKind.i64.wrap (id0 : Int) = (id0 : Int) := wrap_id (by omega) (by omega)
      go_region_law (first
        | (go_simp; go_at_call 114; refine HLT2.out.mono ?_; rintro e w2 ⟨rfl, hb2⟩; have H2 := H1.drew.below hb2; have e0 := H2.c0 HIDP.out; have e9 := H2.c9 HLP.out; have fo0 := own_frozen H2.prog (id0 * 2); have co0 := own_cell H2.prog (prV_at (k := id0) (by rw [HLP.out]; exact hidn)).1; (try go_simp)))
      all_goals (
        have HM4 : MAt (w2.setCell ⟨a1.oa, id0 * 2, none⟩ (.int .i64 (lastF 0 0 mp.log).1)) b a1 mp.mark := by rw [HMARK.out]; exact H2.setMatch id0 (by rw [HLP.out]; exact hidn) _
        have S4 := (((hst.trans S1).drew).below hb2).storeO (id0 * 2) (.int .i64 (lastF 0 0 mp.log).1)
        have HSET := Lib.hid (settle_any HM4 HOKP.out.mark)
        go_wp2_with (first
          | (go_at_call 116; refine HSET.out.mono ?_; rintro e w5 ⟨a5, rfl, H5, S5⟩; have S6 := S4.trans S5; have HADDS := Lib.hid (adds_any H5 HOKP.out.mark.settle))
          | (go_at_call 64; refine HADDS.out.mono ?_; rintro e w6 ⟨A6, c6, sl6, rfl, hms6, hb6⟩))
        go_ret
        rw [HLEAD.out]
        exact ⟨a5, w5.heap.size, A6, c6, sl6, rfl, H5.below hb6, S6.below hb6, S6.chg.size, H5.lt, hms6⟩)
end
end Go.Proofs.YthjdbmfobmnnlaaGreat
