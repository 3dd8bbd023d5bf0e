/-
  A member is told what to add: what it refuses.
-/
import Derived.Test.YthjdbmfobmnnlaaGreatBh
import Derived.Test.YthjdbmfobmnnlaaGreatBi
namespace Go.Proofs.YthjdbmfobmnnlaaGreat
open Go.RowKit
set_option linter.unusedVariables false
/-- The three cells of a member's log are written. -/
abbrev set3' (w : World) (F : Nat) (x y z : Value) : World := ((w.setCell ⟨F, 3, none⟩ x).setCell ⟨F, 4, none⟩ y).setCell ⟨F, 5, none⟩ z
theorem LogIn.lt {w : World} {am : Option Addr} {cm : Nat} {es : List En} (h : LogIn w am cm es) (h0 : es.length ≠ 0) : ∀ x ∈ blkOf am, x < w.heap.size := by
  intro x hx
  rcases h.row with h1 | ⟨b, off, rfl, hlt, _⟩
  · have := ensV_length es
    rw [h1] at this
    simp at this
    omega
  · simp only [blkOf, List.mem_singleton] at hx
    subst hx
    exact hlt
theorem LogIn.store {w : World} {am : Option Addr} {cm : Nat} {es : List En} (h : LogIn w am cm es) {b : Nat} (hb : es.length ≠ 0 → ∀ x ∈ blkOf am, x ≠ b) (i : Nat) (v : Value) : LogIn (w.setCell ⟨b, i, none⟩ v) am cm es := by
  refine ⟨?_, h.cap, h.none_, h.max⟩
  by_cases h0 : es.length = 0
  · obtain rfl := List.eq_nil_of_length_eq_zero h0
    exact RowAt.nil
  · exact h.row.chg ((Chg.refl [b] w).setCell (.inl (by simp)) i v) fun x hx hc => hb h0 x hx (by simpa using hc)
/-- It has another log, a row of its own. -/
theorem MAt.newLog {w : World} {b : Nat} {a : MA} {m : Mb} (h : MAt w b a m) {base : Nat} (hbase : ∀ x ∈ foot b a, x < base) {A : Option Addr} {c : Nat} {l : List En} (hown : w.ownsRow base 82 7 (.slice A l.length c) l.length (ensV l)) :
    MAt (set3' w b (.int .i64 0) (.int .i64 0) (.slice A l.length c)) b { a with la := A, lc := c } { m with log := l } := by
  obtain ⟨a1, a2, a3, a4, a5, a6⟩ := h.apart
  have hA : ∀ x ∈ blkOf A, x ≠ b := fun x hx e => by have := (own_blk hown x hx).1; have := hbase b (foot_b b a); omega
  have g3 : (set3' w b (.int .i64 0) (.int .i64 0) (.slice A l.length c)).heap[b]? = some (.cells (mbC { m with log := l } { a with la := A, lc := c }) 126) := by
    have h0 : (w.setCell ⟨b, 3, none⟩ (.int .i64 0)).heap[b]? = some (.cells (mbC m a) 126) := blk_set (i := 3) h.blk (.int .i64 0)
    have h1 : ((w.setCell ⟨b, 3, none⟩ (.int .i64 0)).setCell ⟨b, 4, none⟩ (.int .i64 0)).heap[b]? = some (.cells (mbC m a) 126) := blk_set (i := 4) h0 (.int .i64 0)
    exact blk_set (i := 5) h1 (.slice A l.length c)
  have hv : ∀ x ∈ blkOf (some (⟨a.oa, 0, none⟩ : Addr)), x ≠ b := fun x hx => by simp only [blkOf, List.mem_singleton] at hx; subst hx; exact a2
  exact ⟨g3, own_base (own_setFar (own_setFar (own_setFar hown hA _ _) hA _ _) hA _ _) (Nat.zero_le _), ((h.votes.setCell a1 _ _).setCell a1 _ _).setCell a1 _ _, own_setFar (own_setFar (own_setFar h.prog hv _ _) hv _ _) hv _ _⟩
theorem Step.newLog {w w1 : World} {b : Nat} {a a1 : MA} (h : Step w b a w1 a1) {base : Nat} {A : Option Addr} {c n : Nat} {xs : List Value} (hown : w1.ownsRow base 82 7 (.slice A n c) n xs) (hb : w.heap.size ≤ base) (x y z : Value) :
    Step w b a (set3' w1 b x y z) { a1 with la := A, lc := c } :=
  ⟨((h.chg.setCell (.inl (foot_b b a)) 3 x).setCell (.inl (foot_b b a)) 4 y).setCell (.inl (foot_b b a)) 5 z, fun k hk => by
    simp only [foot, List.cons_append, List.nil_append, List.mem_cons] at hk
    rcases hk with rfl | rfl | rfl | hk
    · exact .inl (foot_b _ _)
    · exact h.sub _ (foot_v _ _)
    · exact h.sub _ (foot_o _ _)
    · exact .inr (Nat.le_trans hb (own_blk hown k hk).1)⟩
theorem RetR.oneN {w w1 w' : World} {b n : Nat} {a a' : MA} {m' : Mb} (x : Ms) {A : Option Addr} {c : Nat} (h : MAt w1 b a' m') (hs : Step w b a w1 a') (he : w1.ownsRow w1.heap.size 82 7 (.slice A x.ents.length c) x.ents.length (ensV x.ents))
    (hw : w' = w1.alloc (.cells #[.int .i64 x.kind, .int .i64 x.frm, .int .i64 x.dst, .int .i64 x.term, .int .i64 x.index, .int .i64 x.lterm, .int .i64 x.commit, .bool x.yes, .slice A x.ents.length c] 70)) (hn : w1.heap.size = n) : RetR m' [x] b a w (.returned (.slice (some ⟨n, 0, none⟩) 1 1)) w' := by
  subst hn
  exact RetR.one x h hs he hw
section
variable {w : World} {b : Nat} {a : MA} {m : Mb}
set_option maxRecDepth 100000 in
set_option maxHeartbeats 6400000 in
theorem add_old (h : MAt w b a m) (hok : MbOk m) (xk xf xd xt xi xl xc : Int) (xy : Bool) (xe : List En) (am : Option Addr) (cm : Nat) (hl : LogIn w am cm xe) (hs : xe.length ≤ 1000000) (ho : xt < m.term) :
    Calls Tryz.prog 73 #[.pointer (some ⟨b, 0, none⟩), .agg #[.int .i64 xk, .int .i64 xf, .int .i64 xd, .int .i64 xt, .int .i64 xi, .int .i64 xl, .int .i64 xc, .bool xy, .slice am xe.length cm]] w (RetR m [m.say 3 xf] b a w) := by
  have HS : Hid (∀ W, Below w.heap.size w W → Calls Tryz.prog 66 #[.pointer (some ⟨b, 0, none⟩), .int .i64 3, .int .i64 xf] W fun e w' => e = .returned (.agg #[.int .i64 3, .int .i64 m.id, .int .i64 xf, .int .i64 m.term, .int .i64 0, .int .i64 0, .int .i64 0, .bool false, .slice none 0 0]) ∧ Below W.heap.size W w') := fun W hW => say_any (h.below hW) 3 xf
  have HO := Lib.hid h
  have HLI := Lib.hid hl
  clear hl
  have hal := below2 w (.cells #[.int .i64 xk, .int .i64 xf, .int .i64 xd, .int .i64 xt, .int .i64 xi, .int .i64 xl, .int .i64 xc, .bool xy, .slice am xe.length cm] 70) (.cells #[.int .i64 0, .int .i64 0, .slice none 0 0] 37)
  have gx := alloc2_fst w (.cells #[.int .i64 xk, .int .i64 xf, .int .i64 xd, .int .i64 xt, .int .i64 xi, .int .i64 xl, .int .i64 xc, .bool xy, .slice am xe.length cm] 70) (.cells #[.int .i64 0, .int .i64 0, .slice none 0 0] 37)
  have gl := alloc2_snd w (.cells #[.int .i64 xk, .int .i64 xf, .int .i64 xd, .int .i64 xt, .int .i64 xi, .int .i64 xl, .int .i64 xc, .bool xy, .slice am xe.length cm] 70) (.cells #[.int .i64 0, .int .i64 0, .slice none 0 0] 37)
  obtain ⟨x0, x1, x2, x3, x4, x5, x6, x7, x8⟩ := box9 gx
  go_enter Tryz.func73, Tryz.ntmps73
  go_wp2
  refine scope_fwd 0 rfl ?_
  go_wp2_with (go_at_call 66; refine (HS.out _ hal).mono ?_; rintro e w1 ⟨rfl, hb1⟩; have hw1 := hal.trans (hb1.mono hal.size); have gX0 := blk_keep hb1 gx; have gL0 := blk_keep hb1 gl)
  have hwA := hw1.trans ((below1 w1 (.cells #[.int .i64 3, .int .i64 m.id, .int .i64 xf, .int .i64 m.term, .int .i64 0, .int .i64 0, .int .i64 0, .bool false, .slice none 0 0] 70)).mono hw1.size)
  have gX := blk_keep (below1 w1 (.cells #[.int .i64 3, .int .i64 m.id, .int .i64 xf, .int .i64 m.term, .int .i64 0, .int .i64 0, .int .i64 0, .bool false, .slice none 0 0] 70)) gX0
  have gL := blk_keep (below1 w1 (.cells #[.int .i64 3, .int .i64 m.id, .int .i64 xf, .int .i64 m.term, .int .i64 0, .int .i64 0, .int .i64 0, .bool false, .slice none 0 0] 70)) gL0
  have G1 := blk_new w1 (.cells #[.int .i64 3, .int .i64 m.id, .int .i64 xf, .int .i64 m.term, .int .i64 0, .int .i64 0, .int .i64 0, .bool false, .slice none 0 0] 70)
  have hltL := blk_lt gL0
  have hnx := h.new (Nat.le_refl w.heap.size)
  have hnl := h.new (Nat.le_succ w.heap.size)
  have hn1 : w1.heap.size ∉ foot b a := h.new hw1.size
  have hF1 : w.heap.size ≤ w1.heap.size := hw1.size
  clear hb1 hw1 gX0 gL0 gx gl hal x0 x1 x2 x3 x4 x5 x6 x7 x8
  generalize w1.alloc (.cells #[.int .i64 3, .int .i64 m.id, .int .i64 xf, .int .i64 m.term, .int .i64 0, .int .i64 0, .int .i64 0, .bool false, .slice none 0 0] 70) = W1 at *
  generalize w1.heap.size = F1 at *
  have hbF : b ≠ F1 := fun e => hn1 (e ▸ foot_b b a)
  have hbX : b ≠ w.heap.size := fun e => hnx (e ▸ foot_b b a)
  have hbL : b ≠ w.heap.size + 1 := fun e => hnl (e ▸ foot_b b a)
  have hFX : w.heap.size ≠ F1 := by omega
  have hFL : w.heap.size + 1 ≠ F1 := by omega
  have H1 := HO.out.below hwA
  have S1 : Step w b a W1 a := .of_below hwA
  obtain ⟨x0, x1, x2, x3, x4, x5, x6, x7, x8⟩ := box9 gX
  obtain ⟨c0, c1, c2, c3, c4, c5, c6, c7, c8, c9, hlt⟩ := box10 H1.blk
  have flt := blk_lt gX
  go_quiet (fail)
  replace H1 := H1.many nq
  replace S1 := S1.many nq
  replace gX := blk_many gX nq
  replace gL := blk_many gL nq
  replace G1 := blk_many G1 nq
  replace hwA := Below.many hwA nq
  clear x0 x1 x2 x3 x4 x5 x6 x7 x8 c0 c1 c2 c3 c4 c5 c6 c7 c8 c9 hlt flt
  generalize W1.drewN nq = W1 at *
  obtain ⟨x0, x1, x2, x3, x4, x5, x6, x7, x8⟩ := box9 gX
  obtain ⟨c0, c1, c2, c3, c4, c5, c6, c7, c8, c9, hlt⟩ := box10 H1.blk
  have flt := blk_lt gX
  go_wp2
  refine wp_goto (And.intro rfl ?_)
  obtain ⟨y0, y1, y2, y3, y4, y5, y6, y7, y8⟩ := box9 G1
  go_wp2
  simp only [Exit.jump]
  go_ret
  exact RetR.one ⟨3, m.id, xf, m.term, 0, 0, 0, false, []⟩ H1 S1 (World.ownsRow_nil _ _ _ _) rfl
set_option maxRecDepth 100000 in
set_option maxHeartbeats 6400000 in
theorem add_lead (h : MAt w b a m) (hok : MbOk m) (xk xf xd xt xi xl xc : Int) (xy : Bool) (xe : List En) (am : Option Addr) (cm : Nat) (hl : LogIn w am cm xe) (hs : xe.length ≤ 1000000) (ho : m.term ≤ xt) (hr : m.role = 2) :
    Calls Tryz.prog 73 #[.pointer (some ⟨b, 0, none⟩), .agg #[.int .i64 xk, .int .i64 xf, .int .i64 xd, .int .i64 xt, .int .i64 xi, .int .i64 xl, .int .i64 xc, .bool xy, .slice am xe.length cm]] w (RetR m [] b a w) := by
  have HS : Hid (∀ W, Below w.heap.size w W → Calls Tryz.prog 66 #[.pointer (some ⟨b, 0, none⟩), .int .i64 3, .int .i64 xf] W fun e w' => e = .returned (.agg #[.int .i64 3, .int .i64 m.id, .int .i64 xf, .int .i64 m.term, .int .i64 0, .int .i64 0, .int .i64 0, .bool false, .slice none 0 0]) ∧ Below W.heap.size W w') := fun W hW => say_any (h.below hW) 3 xf
  have HO := Lib.hid h
  have HLI := Lib.hid hl
  clear hl
  have hal := below2 w (.cells #[.int .i64 xk, .int .i64 xf, .int .i64 xd, .int .i64 xt, .int .i64 xi, .int .i64 xl, .int .i64 xc, .bool xy, .slice am xe.length cm] 70) (.cells #[.int .i64 0, .int .i64 0, .slice none 0 0] 37)
  have gx := alloc2_fst w (.cells #[.int .i64 xk, .int .i64 xf, .int .i64 xd, .int .i64 xt, .int .i64 xi, .int .i64 xl, .int .i64 xc, .bool xy, .slice am xe.length cm] 70) (.cells #[.int .i64 0, .int .i64 0, .slice none 0 0] 37)
  have gl := alloc2_snd w (.cells #[.int .i64 xk, .int .i64 xf, .int .i64 xd, .int .i64 xt, .int .i64 xi, .int .i64 xl, .int .i64 xc, .bool xy, .slice am xe.length cm] 70) (.cells #[.int .i64 0, .int .i64 0, .slice none 0 0] 37)
  obtain ⟨x0, x1, x2, x3, x4, x5, x6, x7, x8⟩ := box9 gx
  have hr1 : (m.role == 2) = true := by simpa using hr
  clear hr
  go_enter Tryz.func73, Tryz.ntmps73
  go_wp2
  refine scope_fwd 0 rfl ?_
  go_wp2_with (go_at_call 66; refine (HS.out _ hal).mono ?_; rintro e w1 ⟨rfl, hb1⟩; have hw1 := hal.trans (hb1.mono hal.size); have gX0 := blk_keep hb1 gx; have gL0 := blk_keep hb1 gl)
  have hwA := hw1.trans ((below1 w1 (.cells #[.int .i64 3, .int .i64 m.id, .int .i64 xf, .int .i64 m.term, .int .i64 0, .int .i64 0, .int .i64 0, .bool false, .slice none 0 0] 70)).mono hw1.size)
  have gX := blk_keep (below1 w1 (.cells #[.int .i64 3, .int .i64 m.id, .int .i64 xf, .int .i64 m.term, .int .i64 0, .int .i64 0, .int .i64 0, .bool false, .slice none 0 0] 70)) gX0
  have gL := blk_keep (below1 w1 (.cells #[.int .i64 3, .int .i64 m.id, .int .i64 xf, .int .i64 m.term, .int .i64 0, .int .i64 0, .int .i64 0, .bool false, .slice none 0 0] 70)) gL0
  have G1 := blk_new w1 (.cells #[.int .i64 3, .int .i64 m.id, .int .i64 xf, .int .i64 m.term, .int .i64 0, .int .i64 0, .int .i64 0, .bool false, .slice none 0 0] 70)
  have hltL := blk_lt gL0
  have hnx := h.new (Nat.le_refl w.heap.size)
  have hnl := h.new (Nat.le_succ w.heap.size)
  have hn1 : w1.heap.size ∉ foot b a := h.new hw1.size
  have hF1 : w.heap.size ≤ w1.heap.size := hw1.size
  clear hb1 hw1 gX0 gL0 gx gl hal x0 x1 x2 x3 x4 x5 x6 x7 x8
  generalize w1.alloc (.cells #[.int .i64 3, .int .i64 m.id, .int .i64 xf, .int .i64 m.term, .int .i64 0, .int .i64 0, .int .i64 0, .bool false, .slice none 0 0] 70) = W1 at *
  generalize w1.heap.size = F1 at *
  have hbF : b ≠ F1 := fun e => hn1 (e ▸ foot_b b a)
  have hbX : b ≠ w.heap.size := fun e => hnx (e ▸ foot_b b a)
  have hbL : b ≠ w.heap.size + 1 := fun e => hnl (e ▸ foot_b b a)
  have hFX : w.heap.size ≠ F1 := by omega
  have hFL : w.heap.size + 1 ≠ F1 := by omega
  have H1 := HO.out.below hwA
  have S1 : Step w b a W1 a := .of_below hwA
  obtain ⟨x0, x1, x2, x3, x4, x5, x6, x7, x8⟩ := box9 gX
  obtain ⟨c0, c1, c2, c3, c4, c5, c6, c7, c8, c9, hlt⟩ := box10 H1.blk
  have flt := blk_lt gX
  go_quiet (fail)
  replace H1 := H1.many nq
  replace S1 := S1.many nq
  replace gX := blk_many gX nq
  replace gL := blk_many gL nq
  replace G1 := blk_many G1 nq
  replace hwA := Below.many hwA nq
  clear x0 x1 x2 x3 x4 x5 x6 x7 x8 c0 c1 c2 c3 c4 c5 c6 c7 c8 c9 hlt flt
  generalize W1.drewN nq = W1 at *
  obtain ⟨x0, x1, x2, x3, x4, x5, x6, x7, x8⟩ := box9 gX
  obtain ⟨c0, c1, c2, c3, c4, c5, c6, c7, c8, c9, hlt⟩ := box10 H1.blk
  have flt := blk_lt gX
  go_wp2
  simp only [Exit.jump]
  go_ret
  exact RetR.nil H1 S1
set_option maxRecDepth 100000 in
set_option maxHeartbeats 6400000 in
theorem add_err (h : MAt w b a m) (hok : MbOk m) (xk xf xd xt xi xl xc : Int) (xy : Bool) (xe : List En) (am : Option Addr) (cm : Nat) (hl : LogIn w am cm xe) (hs : xe.length ≤ 1000000) (ho : m.term ≤ xt) (hr : m.role ≠ 2) (hdis : xe.length ≠ 0 → ∀ x ∈ blkOf am, x ∉ foot b a) (he : (addF 0 0 m.log xi xl xe).2.2.2 ≠ 0) :
    Calls Tryz.prog 73 #[.pointer (some ⟨b, 0, none⟩), .agg #[.int .i64 xk, .int .i64 xf, .int .i64 xd, .int .i64 xt, .int .i64 xi, .int .i64 xl, .int .i64 xc, .bool xy, .slice am xe.length cm]] w (RetR m.follow [{ m.say 3 xf with index := (lastF 0 0 m.log).1 }] b a w) := by
  have HS : Hid (∀ W, Below w.heap.size w W → Calls Tryz.prog 66 #[.pointer (some ⟨b, 0, none⟩), .int .i64 3, .int .i64 xf] W fun e w' => e = .returned (.agg #[.int .i64 3, .int .i64 m.id, .int .i64 xf, .int .i64 m.term, .int .i64 0, .int .i64 0, .int .i64 0, .bool false, .slice none 0 0]) ∧ Below W.heap.size W w') := fun W hW => say_any (h.below hW) 3 xf
  have hr1 : (m.role == 2) = false := by simpa using hr
  have hlb : xe.length ≠ 0 → ∀ x ∈ blkOf am, x ≠ b := fun h0 x hx e => hdis h0 x hx (e ▸ foot_b b a)
  have hll : xe.length ≠ 0 → ∀ x ∈ blkOf am, x ≠ w.heap.size + 1 := fun h0 x hx => by have := hl.lt h0 x hx; omega
  clear hr hdis
  have HO := Lib.hid h
  have HLI := Lib.hid hl
  clear hl
  have hal := below2 w (.cells #[.int .i64 xk, .int .i64 xf, .int .i64 xd, .int .i64 xt, .int .i64 xi, .int .i64 xl, .int .i64 xc, .bool xy, .slice am xe.length cm] 70) (.cells #[.int .i64 0, .int .i64 0, .slice none 0 0] 37)
  have gx := alloc2_fst w (.cells #[.int .i64 xk, .int .i64 xf, .int .i64 xd, .int .i64 xt, .int .i64 xi, .int .i64 xl, .int .i64 xc, .bool xy, .slice am xe.length cm] 70) (.cells #[.int .i64 0, .int .i64 0, .slice none 0 0] 37)
  have gl := alloc2_snd w (.cells #[.int .i64 xk, .int .i64 xf, .int .i64 xd, .int .i64 xt, .int .i64 xi, .int .i64 xl, .int .i64 xc, .bool xy, .slice am xe.length cm] 70) (.cells #[.int .i64 0, .int .i64 0, .slice none 0 0] 37)
  obtain ⟨x0, x1, x2, x3, x4, x5, x6, x7, x8⟩ := box9 gx
  go_enter Tryz.func73, Tryz.ntmps73
  go_wp2
  refine scope_fwd 0 rfl ?_
  go_wp2_with (go_at_call 66; refine (HS.out _ hal).mono ?_; rintro e w1 ⟨rfl, hb1⟩; have hw1 := hal.trans (hb1.mono hal.size); have gX0 := blk_keep hb1 gx; have gL0 := blk_keep hb1 gl)
  have hwA := hw1.trans ((below1 w1 (.cells #[.int .i64 3, .int .i64 m.id, .int .i64 xf, .int .i64 m.term, .int .i64 0, .int .i64 0, .int .i64 0, .bool false, .slice none 0 0] 70)).mono hw1.size)
  have gX := blk_keep (below1 w1 (.cells #[.int .i64 3, .int .i64 m.id, .int .i64 xf, .int .i64 m.term, .int .i64 0, .int .i64 0, .int .i64 0, .bool false, .slice none 0 0] 70)) gX0
  have gL := blk_keep (below1 w1 (.cells #[.int .i64 3, .int .i64 m.id, .int .i64 xf, .int .i64 m.term, .int .i64 0, .int .i64 0, .int .i64 0, .bool false, .slice none 0 0] 70)) gL0
  have G1 := blk_new w1 (.cells #[.int .i64 3, .int .i64 m.id, .int .i64 xf, .int .i64 m.term, .int .i64 0, .int .i64 0, .int .i64 0, .bool false, .slice none 0 0] 70)
  have hltL := blk_lt gL0
  have hnx := h.new (Nat.le_refl w.heap.size)
  have hnl := h.new (Nat.le_succ w.heap.size)
  have hn1 : w1.heap.size ∉ foot b a := h.new hw1.size
  have hF1 : w.heap.size ≤ w1.heap.size := hw1.size
  clear hb1 hw1 gX0 gL0 gx gl hal x0 x1 x2 x3 x4 x5 x6 x7 x8
  generalize w1.alloc (.cells #[.int .i64 3, .int .i64 m.id, .int .i64 xf, .int .i64 m.term, .int .i64 0, .int .i64 0, .int .i64 0, .bool false, .slice none 0 0] 70) = W1 at *
  generalize w1.heap.size = F1 at *
  have hbF : b ≠ F1 := fun e => hn1 (e ▸ foot_b b a)
  have hbX : b ≠ w.heap.size := fun e => hnx (e ▸ foot_b b a)
  have hbL : b ≠ w.heap.size + 1 := fun e => hnl (e ▸ foot_b b a)
  have hFX : w.heap.size ≠ F1 := by omega
  have hFL : w.heap.size + 1 ≠ F1 := by omega
  have H1 := HO.out.below hwA
  have S1 : Step w b a W1 a := .of_below hwA
  obtain ⟨x0, x1, x2, x3, x4, x5, x6, x7, x8⟩ := box9 gX
  obtain ⟨c0, c1, c2, c3, c4, c5, c6, c7, c8, c9, hlt⟩ := box10 H1.blk
  have flt := blk_lt gX
  go_quiet (fail)
  replace H1 := H1.many nq
  replace S1 := S1.many nq
  replace gX := blk_many gX nq
  replace gL := blk_many gL nq
  replace G1 := blk_many G1 nq
  replace hwA := Below.many hwA nq
  clear x0 x1 x2 x3 x4 x5 x6 x7 x8 c0 c1 c2 c3 c4 c5 c6 c7 c8 c9 hlt flt
  generalize W1.drewN nq = W1 at *
  obtain ⟨x0, x1, x2, x3, x4, x5, x6, x7, x8⟩ := box9 gX
  obtain ⟨c0, c1, c2, c3, c4, c5, c6, c7, c8, c9, hlt⟩ := box10 H1.blk
  have flt := blk_lt gX
  obtain ⟨fr0, fr1, fr2, fr3, fr4, fr5, fr6, fr7, fr8, fr9⟩ := fro9 H1.blk
  go_wp2
  have H2 : MAt (W1.setCell ⟨b, 6, none⟩ (.int .i64 0)) b a { m with role := 0 } := H1.store 6 (.int .i64 0) (m' := { m with role := 0 }) rfl rfl rfl rfl
  have S2 : Step w b a (W1.setCell ⟨b, 6, none⟩ (.int .i64 0)) a := S1.store 6 _
  have gX2 : (W1.setCell ⟨b, 6, none⟩ (.int .i64 0)).heap[w.heap.size]? = _ := blk_far gX (Ne.symm hbX) _
  have gL2 : (W1.setCell ⟨b, 6, none⟩ (.int .i64 0)).heap[w.heap.size + 1]? = _ := blk_far gL (Ne.symm hbL) _
  have G2 : (W1.setCell ⟨b, 6, none⟩ (.int .i64 0)).heap[F1]? = _ := blk_far G1 (Ne.symm hbF) _
  have hl2 : LogIn (W1.setCell ⟨b, 6, none⟩ (.int .i64 0)) am cm xe := (HLI.out.below hwA).store hlb 6 _
  clear x0 x1 x2 x3 x4 x5 x6 x7 x8 c0 c1 c2 c3 c4 c5 c6 c7 c8 c9 hlt flt fr0 fr1 fr2 fr3 fr4 fr5 fr6 fr7 fr8 fr9 H1 S1 gX gL G1
  generalize W1.setCell ⟨b, 6, none⟩ (.int .i64 0) = W2 at *
  obtain ⟨x0, x1, x2, x3, x4, x5, x6, x7, x8⟩ := box9 gX2
  obtain ⟨c0, c1, c2, c3, c4, c5, c6, c7, c8, c9, hlt⟩ := box10 H2.blk
  have flt := blk_lt gX2
  have HA2 : Hid (Calls Tryz.prog 120 #[logV 0 0 a.la m.log.length a.lc, .int .i64 xi, .int .i64 xl, .slice am xe.length cm] W2.drew (RetLogO (addF 0 0 m.log xi xl xe) W2.drew)) := addO_any 0 0 a.la a.lc m.log xi xl am cm xe W2.drew (LogIn.of_own H2.drew.log) (hl2.below (below0 _).drew) hs
  have HX2 := Lib.hid hl2
  clear hl2
  generalize addF 0 0 m.log xi xl xe = R at *
  obtain ⟨rb, rt, rl, re⟩ := R
  simp only at he HA2
  go_cut [5, 6] (fun p q wx => ∃ a3 ca3, p = .pointer (some ⟨w.heap.size + 1, 0, none⟩) ∧ q = .int .i64 re ∧ wx.heap[w.heap.size + 1]? = some (.cells #[.int .i64 rb, .int .i64 rt, .slice a3 rl.length ca3] 37) ∧ wx.heap[w.heap.size]? = some (.cells #[.int .i64 xk, .int .i64 xf, .int .i64 xd, .int .i64 xt, .int .i64 xi, .int .i64 xl, .int .i64 xc, .bool xy, .slice am xe.length cm] 70) ∧ wx.heap[F1]? = some (.cells #[.int .i64 3, .int .i64 m.id, .int .i64 xf, .int .i64 m.term, .int .i64 0, .int .i64 0, .int .i64 0, .bool false, .slice none 0 0] 70) ∧ MAt wx b a { m with role := 0 } ∧ Step w b a wx a ∧ LogIn wx am cm xe ∧ W2.heap.size ≤ wx.heap.size ∧ wx.ownsRow W2.heap.size 82 7 (.slice a3 rl.length ca3) rl.length (ensV rl))
  case first =>
    go_region_held3 (fun W => W.cell? ⟨b, 3, none⟩ = some (.int .i64 0) ∧ W.cell? ⟨b, 4, none⟩ = some (.int .i64 0) ∧ W.cell? ⟨b, 5, none⟩ = some (.slice a.la m.log.length a.lc) ∧ W.cell? ⟨w.heap.size, 4, none⟩ = some (.int .i64 xi) ∧ W.cell? ⟨w.heap.size, 5, none⟩ = some (.int .i64 xl) ∧ W.cell? ⟨w.heap.size, 8, none⟩ = some (.slice am xe.length cm)) (first | with_reducible exact ⟨c3, c4, c5, x4, x5, x8⟩ | with_reducible exact ⟨d3, d4, d5, y4, y5, y8⟩ | with_reducible exact ⟨k3, k4, k5, j4, j5, j8⟩ | go_keep) ((go_at_call 120; refine HA2.out.mono ?_; rintro e w3 ⟨a3, ca3, rfl, own3, hb3⟩; have H3 := H2.drew.below hb3; have gX3 := blk_keep hb3 (blk_drawn gX2); have gL3 := blk_keep hb3 (blk_drawn gL2); have G3 := blk_keep hb3 (blk_drawn G2); have hl3 := (HX2.out.below (below0 _).drew).below hb3; have S3 := (S2.drew).below hb3; obtain ⟨l0, l1, l2, lf0, lf1, lf2, llt⟩ := box3 gL3; obtain ⟨y0, y1, y2, y3, y4, y5, y6, y7, y8⟩ := box9 gX3; obtain ⟨d0, d1, d2, d3, d4, d5, d6, d7, d8, d9, dlt⟩ := box10 H3.blk; obtain ⟨j0, j1, j2, j3, j4, j5, j6, j7, j8⟩ := box9 (set3_far gX3 (show w.heap.size ≠ w.heap.size + 1 by omega) (.int .i64 rb) (.int .i64 rt) (.slice a3 rl.length ca3)); obtain ⟨k0, k1, k2, k3, k4, k5, k6, k7, k8, k9, klt⟩ := box10 (set3_far H3.blk hbL (.int .i64 rb) (.int .i64 rt) (.slice a3 rl.length ca3)); have hsz3 := hb3.size))
    all_goals (go_wp2_with fail; go_meet)
    all_goals exact ⟨a3, ca3, rfl, rfl, set3_blk gL3 _ _ _, set3_far gX3 (by omega) _ _ _, set3_far G3 (by omega) _ _ _, ((H3.far hnl _ _).far hnl _ _).far hnl _ _, ((S3.fresh (Nat.le_succ _) _ _).fresh (Nat.le_succ _) _ _).fresh (Nat.le_succ _) _ _, ((hl3.store hll _ _).store hll _ _).store hll _ _, by simpa [World.setCell] using hsz3, own_set3 own3 (by have := blk_lt gL2; exact this) _ _ _⟩
  case rest =>
    obtain ⟨a3, ca3, rfl, rfl, gL4, gX4, G4, H4, S4, hl4, hsz4, own4⟩ := hcut
    clear x0 x1 x2 x3 x4 x5 x6 x7 x8 c0 c1 c2 c3 c4 c5 c6 c7 c8 c9 hlt flt
    obtain ⟨x0, x1, x2, x3, x4, x5, x6, x7, x8⟩ := box9 gX4
    obtain ⟨l0, l1, l2, lf0, lf1, lf2, llt⟩ := box3 gL4
    obtain ⟨y0, y1, y2, y3, y4, y5, y6, y7, y8⟩ := box9 G4
    obtain ⟨fs0, fs1, fs2, fs3, fs4, fs5, fs6, fs7, fs8, fs9⟩ := fro9 G4
    obtain ⟨c0, c1, c2, c3, c4, c5, c6, c7, c8, c9, hlt⟩ := box10 H4.blk
    obtain ⟨fr0, fr1, fr2, fr3, fr4, fr5, fr6, fr7, fr8, fr9⟩ := fro9 H4.blk
    have flt := blk_lt gX4
    have glt := blk_lt G4
    have HX4 := Lib.hid hl4
    clear hl4
    have he1 : (re != 0) = true := by simpa using he
    clear he
    have HLA := Lib.hid (mlast_any H4)
    simp only at HLA
    go_wp2_with (go_at_call 114; refine HLA.out.mono ?_; rintro e w5 ⟨rfl, hb5⟩; have H4' := H4.below hb5; have S4' := S4.below hb5; have G5 := blk_keep hb5 G4; obtain ⟨y0, y1, y2, y3, y4, y5, y6, y7, y8⟩ := box9 G5; obtain ⟨fs0, fs1, fs2, fs3, fs4, fs5, fs6, fs7, fs8, fs9⟩ := fro9 G5; have glt := blk_lt G5)
    have hF := blk_lt G4
    refine wp_goto (And.intro rfl ?_)
    go_wp2
    simp only [Exit.jump]
    go_ret
    exact RetR.oneN ⟨3, m.id, xf, m.term, (lastF 0 0 m.log).1, 0, 0, false, []⟩ (H4'.far hn1 4 (.int .i64 (lastF 0 0 m.log).1)) (S4'.fresh hF1 4 (.int .i64 (lastF 0 0 m.log).1)) (World.ownsRow_nil _ _ _ _) rfl (by simp [World.setCell])
set_option maxRecDepth 100000 in
set_option maxHeartbeats 6400000 in
theorem add_odd (h : MAt w b a m) (hok : MbOk m) (xk xf xd xt xi xl xc : Int) (xy : Bool) (xe : List En) (am : Option Addr) (cm : Nat) (hl : LogIn w am cm xe) (hs : xe.length ≤ 1000000) (ho : m.term ≤ xt) (hr : m.role ≠ 2) (hdis : xe.length ≠ 0 → ∀ x ∈ blkOf am, x ∉ foot b a) (he : (addF 0 0 m.log xi xl xe).2.2.2 = 0) (hodd : (xe.any fun e => decide (xt < e.1)) = true) :
    Calls Tryz.prog 73 #[.pointer (some ⟨b, 0, none⟩), .agg #[.int .i64 xk, .int .i64 xf, .int .i64 xd, .int .i64 xt, .int .i64 xi, .int .i64 xl, .int .i64 xc, .bool xy, .slice am xe.length cm]] w (RetR m.follow [{ m.say 3 xf with index := (lastF 0 0 m.log).1 }] b a w) := by
  have HS : Hid (∀ W, Below w.heap.size w W → Calls Tryz.prog 66 #[.pointer (some ⟨b, 0, none⟩), .int .i64 3, .int .i64 xf] W fun e w' => e = .returned (.agg #[.int .i64 3, .int .i64 m.id, .int .i64 xf, .int .i64 m.term, .int .i64 0, .int .i64 0, .int .i64 0, .bool false, .slice none 0 0]) ∧ Below W.heap.size W w') := fun W hW => say_any (h.below hW) 3 xf
  have hr1 : (m.role == 2) = false := by simpa using hr
  have hlb : xe.length ≠ 0 → ∀ x ∈ blkOf am, x ≠ b := fun h0 x hx e => hdis h0 x hx (e ▸ foot_b b a)
  have hll : xe.length ≠ 0 → ∀ x ∈ blkOf am, x ≠ w.heap.size + 1 := fun h0 x hx => by have := hl.lt h0 x hx; omega
  clear hr hdis
  have HO := Lib.hid h
  have HLI := Lib.hid hl
  clear hl
  have hal := below2 w (.cells #[.int .i64 xk, .int .i64 xf, .int .i64 xd, .int .i64 xt, .int .i64 xi, .int .i64 xl, .int .i64 xc, .bool xy, .slice am xe.length cm] 70) (.cells #[.int .i64 0, .int .i64 0, .slice none 0 0] 37)
  have gx := alloc2_fst w (.cells #[.int .i64 xk, .int .i64 xf, .int .i64 xd, .int .i64 xt, .int .i64 xi, .int .i64 xl, .int .i64 xc, .bool xy, .slice am xe.length cm] 70) (.cells #[.int .i64 0, .int .i64 0, .slice none 0 0] 37)
  have gl := alloc2_snd w (.cells #[.int .i64 xk, .int .i64 xf, .int .i64 xd, .int .i64 xt, .int .i64 xi, .int .i64 xl, .int .i64 xc, .bool xy, .slice am xe.length cm] 70) (.cells #[.int .i64 0, .int .i64 0, .slice none 0 0] 37)
  obtain ⟨x0, x1, x2, x3, x4, x5, x6, x7, x8⟩ := box9 gx
  go_enter Tryz.func73, Tryz.ntmps73
  go_wp2
  refine scope_fwd 0 rfl ?_
  go_wp2_with (go_at_call 66; refine (HS.out _ hal).mono ?_; rintro e w1 ⟨rfl, hb1⟩; have hw1 := hal.trans (hb1.mono hal.size); have gX0 := blk_keep hb1 gx; have gL0 := blk_keep hb1 gl)
  have hwA := hw1.trans ((below1 w1 (.cells #[.int .i64 3, .int .i64 m.id, .int .i64 xf, .int .i64 m.term, .int .i64 0, .int .i64 0, .int .i64 0, .bool false, .slice none 0 0] 70)).mono hw1.size)
  have gX := blk_keep (below1 w1 (.cells #[.int .i64 3, .int .i64 m.id, .int .i64 xf, .int .i64 m.term, .int .i64 0, .int .i64 0, .int .i64 0, .bool false, .slice none 0 0] 70)) gX0
  have gL := blk_keep (below1 w1 (.cells #[.int .i64 3, .int .i64 m.id, .int .i64 xf, .int .i64 m.term, .int .i64 0, .int .i64 0, .int .i64 0, .bool false, .slice none 0 0] 70)) gL0
  have G1 := blk_new w1 (.cells #[.int .i64 3, .int .i64 m.id, .int .i64 xf, .int .i64 m.term, .int .i64 0, .int .i64 0, .int .i64 0, .bool false, .slice none 0 0] 70)
  have hltL := blk_lt gL0
  have hnx := h.new (Nat.le_refl w.heap.size)
  have hnl := h.new (Nat.le_succ w.heap.size)
  have hn1 : w1.heap.size ∉ foot b a := h.new hw1.size
  have hF1 : w.heap.size ≤ w1.heap.size := hw1.size
  clear hb1 hw1 gX0 gL0 gx gl hal x0 x1 x2 x3 x4 x5 x6 x7 x8
  generalize w1.alloc (.cells #[.int .i64 3, .int .i64 m.id, .int .i64 xf, .int .i64 m.term, .int .i64 0, .int .i64 0, .int .i64 0, .bool false, .slice none 0 0] 70) = W1 at *
  generalize w1.heap.size = F1 at *
  have hbF : b ≠ F1 := fun e => hn1 (e ▸ foot_b b a)
  have hbX : b ≠ w.heap.size := fun e => hnx (e ▸ foot_b b a)
  have hbL : b ≠ w.heap.size + 1 := fun e => hnl (e ▸ foot_b b a)
  have hFX : w.heap.size ≠ F1 := by omega
  have hFL : w.heap.size + 1 ≠ F1 := by omega
  have H1 := HO.out.below hwA
  have S1 : Step w b a W1 a := .of_below hwA
  obtain ⟨x0, x1, x2, x3, x4, x5, x6, x7, x8⟩ := box9 gX
  obtain ⟨c0, c1, c2, c3, c4, c5, c6, c7, c8, c9, hlt⟩ := box10 H1.blk
  have flt := blk_lt gX
  go_quiet (fail)
  replace H1 := H1.many nq
  replace S1 := S1.many nq
  replace gX := blk_many gX nq
  replace gL := blk_many gL nq
  replace G1 := blk_many G1 nq
  replace hwA := Below.many hwA nq
  clear x0 x1 x2 x3 x4 x5 x6 x7 x8 c0 c1 c2 c3 c4 c5 c6 c7 c8 c9 hlt flt
  generalize W1.drewN nq = W1 at *
  obtain ⟨x0, x1, x2, x3, x4, x5, x6, x7, x8⟩ := box9 gX
  obtain ⟨c0, c1, c2, c3, c4, c5, c6, c7, c8, c9, hlt⟩ := box10 H1.blk
  have flt := blk_lt gX
  obtain ⟨fr0, fr1, fr2, fr3, fr4, fr5, fr6, fr7, fr8, fr9⟩ := fro9 H1.blk
  go_wp2
  have H2 : MAt (W1.setCell ⟨b, 6, none⟩ (.int .i64 0)) b a { m with role := 0 } := H1.store 6 (.int .i64 0) (m' := { m with role := 0 }) rfl rfl rfl rfl
  have S2 : Step w b a (W1.setCell ⟨b, 6, none⟩ (.int .i64 0)) a := S1.store 6 _
  have gX2 : (W1.setCell ⟨b, 6, none⟩ (.int .i64 0)).heap[w.heap.size]? = _ := blk_far gX (Ne.symm hbX) _
  have gL2 : (W1.setCell ⟨b, 6, none⟩ (.int .i64 0)).heap[w.heap.size + 1]? = _ := blk_far gL (Ne.symm hbL) _
  have G2 : (W1.setCell ⟨b, 6, none⟩ (.int .i64 0)).heap[F1]? = _ := blk_far G1 (Ne.symm hbF) _
  have hl2 : LogIn (W1.setCell ⟨b, 6, none⟩ (.int .i64 0)) am cm xe := (HLI.out.below hwA).store hlb 6 _
  clear x0 x1 x2 x3 x4 x5 x6 x7 x8 c0 c1 c2 c3 c4 c5 c6 c7 c8 c9 hlt flt fr0 fr1 fr2 fr3 fr4 fr5 fr6 fr7 fr8 fr9 H1 S1 gX gL G1
  generalize W1.setCell ⟨b, 6, none⟩ (.int .i64 0) = W2 at *
  obtain ⟨x0, x1, x2, x3, x4, x5, x6, x7, x8⟩ := box9 gX2
  obtain ⟨c0, c1, c2, c3, c4, c5, c6, c7, c8, c9, hlt⟩ := box10 H2.blk
  have flt := blk_lt gX2
  have HA2 : Hid (Calls Tryz.prog 120 #[logV 0 0 a.la m.log.length a.lc, .int .i64 xi, .int .i64 xl, .slice am xe.length cm] W2.drew (RetLogO (addF 0 0 m.log xi xl xe) W2.drew)) := addO_any 0 0 a.la a.lc m.log xi xl am cm xe W2.drew (LogIn.of_own H2.drew.log) (hl2.below (below0 _).drew) hs
  have HX2 := Lib.hid hl2
  clear hl2
  generalize addF 0 0 m.log xi xl xe = R at *
  obtain ⟨rb, rt, rl, re⟩ := R
  simp only at he HA2
  have HE0 := Lib.hid he
  clear he
  go_cut [5, 6] (fun p q wx => ∃ a3 ca3, p = .pointer (some ⟨w.heap.size + 1, 0, none⟩) ∧ q = .int .i64 re ∧ wx.heap[w.heap.size + 1]? = some (.cells #[.int .i64 rb, .int .i64 rt, .slice a3 rl.length ca3] 37) ∧ wx.heap[w.heap.size]? = some (.cells #[.int .i64 xk, .int .i64 xf, .int .i64 xd, .int .i64 xt, .int .i64 xi, .int .i64 xl, .int .i64 xc, .bool xy, .slice am xe.length cm] 70) ∧ wx.heap[F1]? = some (.cells #[.int .i64 3, .int .i64 m.id, .int .i64 xf, .int .i64 m.term, .int .i64 0, .int .i64 0, .int .i64 0, .bool false, .slice none 0 0] 70) ∧ MAt wx b a { m with role := 0 } ∧ Step w b a wx a ∧ LogIn wx am cm xe ∧ W2.heap.size ≤ wx.heap.size ∧ wx.ownsRow W2.heap.size 82 7 (.slice a3 rl.length ca3) rl.length (ensV rl))
  case first =>
    go_region_held3 (fun W => W.cell? ⟨b, 3, none⟩ = some (.int .i64 0) ∧ W.cell? ⟨b, 4, none⟩ = some (.int .i64 0) ∧ W.cell? ⟨b, 5, none⟩ = some (.slice a.la m.log.length a.lc) ∧ W.cell? ⟨w.heap.size, 4, none⟩ = some (.int .i64 xi) ∧ W.cell? ⟨w.heap.size, 5, none⟩ = some (.int .i64 xl) ∧ W.cell? ⟨w.heap.size, 8, none⟩ = some (.slice am xe.length cm)) (first | with_reducible exact ⟨c3, c4, c5, x4, x5, x8⟩ | with_reducible exact ⟨d3, d4, d5, y4, y5, y8⟩ | with_reducible exact ⟨k3, k4, k5, j4, j5, j8⟩ | go_keep) ((go_at_call 120; refine HA2.out.mono ?_; rintro e w3 ⟨a3, ca3, rfl, own3, hb3⟩; have H3 := H2.drew.below hb3; have gX3 := blk_keep hb3 (blk_drawn gX2); have gL3 := blk_keep hb3 (blk_drawn gL2); have G3 := blk_keep hb3 (blk_drawn G2); have hl3 := (HX2.out.below (below0 _).drew).below hb3; have S3 := (S2.drew).below hb3; obtain ⟨l0, l1, l2, lf0, lf1, lf2, llt⟩ := box3 gL3; obtain ⟨y0, y1, y2, y3, y4, y5, y6, y7, y8⟩ := box9 gX3; obtain ⟨d0, d1, d2, d3, d4, d5, d6, d7, d8, d9, dlt⟩ := box10 H3.blk; obtain ⟨j0, j1, j2, j3, j4, j5, j6, j7, j8⟩ := box9 (set3_far gX3 (show w.heap.size ≠ w.heap.size + 1 by omega) (.int .i64 rb) (.int .i64 rt) (.slice a3 rl.length ca3)); obtain ⟨k0, k1, k2, k3, k4, k5, k6, k7, k8, k9, klt⟩ := box10 (set3_far H3.blk hbL (.int .i64 rb) (.int .i64 rt) (.slice a3 rl.length ca3)); have hsz3 := hb3.size))
    all_goals (go_wp2_with fail; go_meet)
    all_goals exact ⟨a3, ca3, rfl, rfl, set3_blk gL3 _ _ _, set3_far gX3 (by omega) _ _ _, set3_far G3 (by omega) _ _ _, ((H3.far hnl _ _).far hnl _ _).far hnl _ _, ((S3.fresh (Nat.le_succ _) _ _).fresh (Nat.le_succ _) _ _).fresh (Nat.le_succ _) _ _, ((hl3.store hll _ _).store hll _ _).store hll _ _, by simpa [World.setCell] using hsz3, own_set3 own3 (by have := blk_lt gL2; exact this) _ _ _⟩
  case rest =>
    obtain ⟨a3, ca3, rfl, rfl, gL4, gX4, G4, H4, S4, hl4, hsz4, own4⟩ := hcut
    clear x0 x1 x2 x3 x4 x5 x6 x7 x8 c0 c1 c2 c3 c4 c5 c6 c7 c8 c9 hlt flt
    obtain ⟨x0, x1, x2, x3, x4, x5, x6, x7, x8⟩ := box9 gX4
    obtain ⟨l0, l1, l2, lf0, lf1, lf2, llt⟩ := box3 gL4
    obtain ⟨y0, y1, y2, y3, y4, y5, y6, y7, y8⟩ := box9 G4
    obtain ⟨fs0, fs1, fs2, fs3, fs4, fs5, fs6, fs7, fs8, fs9⟩ := fro9 G4
    obtain ⟨c0, c1, c2, c3, c4, c5, c6, c7, c8, c9, hlt⟩ := box10 H4.blk
    obtain ⟨fr0, fr1, fr2, fr3, fr4, fr5, fr6, fr7, fr8, fr9⟩ := fro9 H4.blk
    have flt := blk_lt gX4
    have glt := blk_lt G4
    have HX4 := Lib.hid hl4
    clear hl4
    obtain rfl := HE0.out
    clear HE0
    have HLA := fun W (hW : MAt W b a { m with role := 0 }) => mlast_any hW
    simp only at HLA
    have HLA := Lib.hid HLA
    have HCT := Lib.hid (mcontainsE_any am cm xe w.heap.size xt _ HX4.out hs x3 flt)
    rw [hodd] at HCT
    clear hodd
    go_wp2_with (first
      | (go_at_call 121; refine HCT.out.mono ?_; rintro e w4 ⟨rfl, hb4⟩; have H5 := H4.below hb4; have S5 := S4.below hb4; have G5 := blk_keep hb4 G4; have gL5 := blk_keep hb4 gL4; have gX5 := blk_keep hb4 gX4)
      | (go_at_call 114; refine (HLA.out _ H5).mono ?_; rintro e w5 ⟨rfl, hb5⟩; have H4' := H5.below hb5; have S4' := S5.below hb5; have G6 := blk_keep hb5 G5; obtain ⟨y0, y1, y2, y3, y4, y5, y6, y7, y8⟩ := box9 G6; obtain ⟨fs0, fs1, fs2, fs3, fs4, fs5, fs6, fs7, fs8, fs9⟩ := fro9 G6; have glt := blk_lt G6))
    have hF := blk_lt G4
    refine wp_goto (And.intro rfl ?_)
    go_wp2
    simp only [Exit.jump]
    go_ret
    exact RetR.oneN ⟨3, m.id, xf, m.term, (lastF 0 0 m.log).1, 0, 0, false, []⟩ (H4'.far hn1 4 (.int .i64 (lastF 0 0 m.log).1)) (S4'.fresh hF1 4 (.int .i64 (lastF 0 0 m.log).1)) (World.ownsRow_nil _ _ _ _) rfl (by simp [World.setCell])
end
end Go.Proofs.YthjdbmfobmnnlaaGreat
