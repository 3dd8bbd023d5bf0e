/-
  A new member.
-/
import Derived.Test.YthjdbmfobmnnlaaGreatBi
import Derived.Laws.MakeOwn
namespace Go.Proofs.YthjdbmfobmnnlaaGreat
open Go.RowKit
set_option linter.unusedVariables false
/-- None. -/
def RetNo (w : World) (en : Ending) (w' : World) : Prop := en = .returned (.tuple #[.pointer none, .int .i64 1]) ∧ Below w.heap.size w w'
/-- A new member, all of it in new blocks. -/
def RetNew (m : Mb) (w : World) (en : Ending) (w' : World) : Prop := ∃ b a, en = .returned (.tuple #[.pointer (some ⟨b, 0, none⟩), .int .i64 0]) ∧ MAt w' b a m ∧ (∀ x ∈ foot b a, w.heap.size ≤ x) ∧ Below w.heap.size w w'
set_option maxRecDepth 100000 in
set_option maxHeartbeats 6400000 in
theorem new_no (id many t v b bt : Int) (la : Option Addr) (lc : Nat) (es : List En) (w : World) (hl : LogIn w la lc es) (hno : newOk id many t v b bt es = false) :
    Calls Tryz.prog 60 #[.int .i64 id, .int .i64 many, ballotV t v, logV b bt la es.length lc] w (RetNo w) := by
  have HL : Hid (∀ W, Below w.heap.size w W → Calls Tryz.prog 9 #[logV b bt la es.length lc] W fun e w' => e = .returned (.tuple #[.int .i64 (lastF b bt es).1, .int .i64 (lastF b bt es).2]) ∧ Below W.heap.size W w') := fun W h => last_any b bt la lc es W (hl.below h)
  have HV : Hid (∀ W, Calls Tryz.prog 112 #[ballotV t v] W fun e w' => e = .returned (.bool (mayV t v)) ∧ Below W.heap.size W w') := fun W => mayV_any t v W
  have HM : Hid (∀ W, Below w.heap.size w W → Calls Tryz.prog 79 #[logV b bt la es.length lc] W fun e w' => e = .returned (.bool (mayL b bt es)) ∧ Below W.heap.size W w') := fun W h => may_any b bt la lc es W (hl.below h)
  have HN := Lib.hid hno
  clear hl hno
  unfold newOk at HN
  generalize mayV t v = V at HV HN
  generalize mayL b bt es = M at HM HN
  generalize lastF b bt es = LL at HL HN
  obtain ⟨L1, L2⟩ := LL
  simp only at HL HN
  have hal := below2 w (.cells #[.int .i64 t, .int .i64 v] 114) (.cells #[.int .i64 b, .int .i64 bt, .slice la es.length lc] 37)
  have g0 := alloc2_fst w (.cells #[.int .i64 t, .int .i64 v] 114) (.cells #[.int .i64 b, .int .i64 bt, .slice la es.length lc] 37)
  have g1 := alloc2_snd w (.cells #[.int .i64 t, .int .i64 v] 114) (.cells #[.int .i64 b, .int .i64 bt, .slice la es.length lc] 37)
  obtain ⟨hc0, hc1, hf0, hf1, hlt⟩ := box2 g0
  obtain ⟨lc0, lc1, lc2, lf0, lf1, lf2, llt⟩ := box3 g1
  go_enter Tryz.func60, Tryz.ntmps60
  go_wp2_with (first
    | (go_at_call 9; refine (HL.out _ hal).mono ?_; rintro e w1 ⟨rfl, hb1⟩; have hw1 := hal.trans (hb1.mono hal.size); have G0 := blk_keep hb1 g0; have G1 := blk_keep hb1 g1; obtain ⟨xc0, xc1, xf0, xf1, xlt⟩ := box2 G0; obtain ⟨yc0, yc1, yc2, yf0, yf1, yf2, ylt⟩ := box3 G1)
    | (go_at_call 112; refine (HV.out _).mono ?_; rintro e w2 ⟨rfl, hb2⟩; have hw2 := hw1.trans (hb2.mono hw1.size); have K0 := blk_keep hb2 G0; have K1 := blk_keep hb2 G1; obtain ⟨kc0, kc1, kf0, kf1, klt⟩ := box2 K0; obtain ⟨jc0, jc1, jc2, jf0, jf1, jf2, jlt⟩ := box3 K1)
    | (go_at_call 79; refine (HM.out _ hw2).mono ?_; rintro e w3 ⟨rfl, hb3⟩; have hw3 := hw2.trans (hb3.mono hw2.size); have N0 := blk_keep hb3 K0; have N1 := blk_keep hb3 K1; obtain ⟨nc0, nc1, nf0, nf1, nlt⟩ := box2 N0; obtain ⟨mc0, mc1, mc2, mf0, mf1, mf2, mlt⟩ := box3 N1))
  all_goals (first
    | (go_ret2; exact ⟨rfl, by first | exact hw3 | exact hw2 | exact hw1 | exact hal⟩)
    | (exfalso; have h0 := HN.out; rw [decide_eq_false_iff_not] at h0; refine h0 ⟨?_, ?_, ?_, ?_, ?_, ?_, ?_, ?_⟩ <;> first | assumption | rfl | omega))
theorem prV_rep (n : Nat) : (madeCells (Value.agg #[.int .i64 0, .int .i64 0]).cells (n * 2)).toList = prV (List.replicate n (0, 0)) := by
  apply List.ext_getElem?
  intro i
  have hl : (prV (List.replicate n ((0 : Int), (0 : Int)))).length = n * 2 := by rw [prV_length, List.length_replicate]
  by_cases hi : i < n * 2
  · have hk : i / 2 < (List.replicate n ((0 : Int), (0 : Int))).length := by rw [List.length_replicate]; omega
    obtain ⟨h0, h1⟩ := prV_at hk
    rw [List.getElem_replicate] at h0 h1
    have hr : (prV (List.replicate n ((0 : Int), (0 : Int))))[i]? = some (.int .i64 0) := by
      rcases Nat.mod_two_eq_zero_or_one i with h2 | h2
      · rw [show i = i / 2 * 2 by omega]; exact h0
      · rw [show i = i / 2 * 2 + 1 by omega]; exact h1
    rw [hr]
    have hc : (Value.agg #[.int .i64 0, .int .i64 0]).cells = #[.int .i64 0, .int .i64 0] := rfl
    rw [hc]
    unfold madeCells
    rcases Nat.mod_two_eq_zero_or_one i with h2 | h2 <;> simp [hi, h2]
  · rw [List.getElem?_eq_none (l := prV _) (by omega), List.getElem?_eq_none]
    rw [Array.length_toList, size_madeCells]
    omega
/-- A member in three new blocks, in the one order and in the other. -/
theorem MAt.newA {w W : World} {id t v : Int} {n : Nat} {es : List En} {A : Option Addr} {c base : Nat} {CS : Array Value} (hb : Below w.heap.size w W) (hown : W.ownsRow base 82 7 (.slice A es.length c) es.length (ensV es)) (hbase : w.heap.size ≤ base) (hn : 1 ≤ n ∧ n ≤ 16) (hCS : CS.toList = prV (List.replicate n (0, 0))) (o : Obj)
    (ho : o = .cells #[.int .i64 id, .int .i64 t, .int .i64 v, .int .i64 0, .int .i64 0, .slice A es.length c, .int .i64 0, .int .i64 0, .map (some W.heap.size), .slice (some ⟨W.heap.size + 1, 0, none⟩) n n] 126) :
    MAt (((W.alloc (.map #[] 0)).alloc (.cells CS 183)).alloc o).drew (W.heap.size + 1 + 1) ⟨A, c, W.heap.size, W.heap.size + 1, n⟩ (newMb id n t v es) ∧ (∀ x ∈ foot (W.heap.size + 1 + 1) ⟨A, c, W.heap.size, W.heap.size + 1, n⟩, w.heap.size ≤ x) ∧ Below w.heap.size w (((W.alloc (.map #[] 0)).alloc (.cells CS 183)).alloc o).drew := by
  subst ho
  have hs := hb.size
  have e1 : (W.alloc (.map #[] 0)).heap.size = W.heap.size + 1 := by simp
  have e2 : ((W.alloc (.map #[] 0)).alloc (.cells CS 183)).heap.size = W.heap.size + 1 + 1 := by simp
  have hcs : CS.size = n * 2 := by rw [← Array.length_toList, hCS, prV_length, List.length_replicate]
  refine ⟨MAt.drew ⟨?_, ?_, ?_, ?_⟩, fun x hx => ?_, ?_⟩
  · have := blk_new ((W.alloc (.map #[] 0)).alloc (.cells CS 183)) (.cells #[.int .i64 id, .int .i64 t, .int .i64 v, .int .i64 0, .int .i64 0, .slice A es.length c, .int .i64 0, .int .i64 0, .map (some W.heap.size), .slice (some ⟨W.heap.size + 1, 0, none⟩) n n] 126)
    rw [e2] at this
    simp only [mbC, newMb, List.length_replicate]
    exact this
  · exact own_base (own_below (own_below (own_below hown (below1 _ _)) (below1 _ _)) (below1 _ _)) (Nat.zero_le _)
  · exact ((VotesAt.made W).below (below1 _ _)).below (below1 _ _)
  · have := World.ownsRow_lit (base := 0) (e := 183) (size := 2) (W.alloc (.map #[] 0)) CS n (Nat.zero_le _) (by unfold maxLen; omega) hcs
    rw [e1, hCS] at this
    simp only [newMb, List.length_replicate]
    exact own_below this (below1 _ _)
  · simp only [foot, List.cons_append, List.nil_append, List.mem_cons] at hx
    rcases hx with rfl | rfl | rfl | hx
    · omega
    · omega
    · omega
    · have := (own_blk hown x hx).1; omega
  · exact (((hb.trans ((below1 W _).mono hs)).trans ((below1 (W.alloc (.map #[] 0)) _).mono (by simp; omega))).trans ((below1 ((W.alloc (.map #[] 0)).alloc (.cells CS 183)) _).mono (by simp; omega))).drew
theorem MAt.newB {w W : World} {id t v : Int} {n : Nat} {es : List En} {A : Option Addr} {c base : Nat} {CS : Array Value} (hb : Below w.heap.size w W) (hown : W.ownsRow base 82 7 (.slice A es.length c) es.length (ensV es)) (hbase : w.heap.size ≤ base) (hn : 1 ≤ n ∧ n ≤ 16) (hCS : CS.toList = prV (List.replicate n (0, 0))) (o : Obj)
    (ho : o = .cells #[.int .i64 id, .int .i64 t, .int .i64 v, .int .i64 0, .int .i64 0, .slice A es.length c, .int .i64 0, .int .i64 0, .map (some (W.heap.size + 1)), .slice (some ⟨W.heap.size, 0, none⟩) n n] 126) :
    MAt (((W.alloc (.cells CS 183)).alloc (.map #[] 0)).alloc o).drew (W.heap.size + 1 + 1) ⟨A, c, W.heap.size + 1, W.heap.size, n⟩ (newMb id n t v es) ∧ (∀ x ∈ foot (W.heap.size + 1 + 1) ⟨A, c, W.heap.size + 1, W.heap.size, n⟩, w.heap.size ≤ x) ∧ Below w.heap.size w (((W.alloc (.cells CS 183)).alloc (.map #[] 0)).alloc o).drew := by
  subst ho
  have hs := hb.size
  have e1 : (W.alloc (.cells CS 183)).heap.size = W.heap.size + 1 := by simp
  have e2 : ((W.alloc (.cells CS 183)).alloc (.map #[] 0)).heap.size = W.heap.size + 1 + 1 := by simp
  have hcs : CS.size = n * 2 := by rw [← Array.length_toList, hCS, prV_length, List.length_replicate]
  refine ⟨MAt.drew ⟨?_, ?_, ?_, ?_⟩, fun x hx => ?_, ?_⟩
  · have := blk_new ((W.alloc (.cells CS 183)).alloc (.map #[] 0)) (.cells #[.int .i64 id, .int .i64 t, .int .i64 v, .int .i64 0, .int .i64 0, .slice A es.length c, .int .i64 0, .int .i64 0, .map (some (W.heap.size + 1)), .slice (some ⟨W.heap.size, 0, none⟩) n n] 126)
    rw [e2] at this
    simp only [mbC, newMb, List.length_replicate]
    exact this
  · exact own_base (own_below (own_below (own_below hown (below1 _ _)) (below1 _ _)) (below1 _ _)) (Nat.zero_le _)
  · have := (VotesAt.made (W.alloc (.cells CS 183)))
    rw [e1] at this
    exact this.below (below1 _ _)
  · have := World.ownsRow_lit (base := 0) (e := 183) (size := 2) W CS n (Nat.zero_le _) (by unfold maxLen; omega) hcs
    rw [hCS] at this
    simp only [newMb, List.length_replicate]
    exact own_below (own_below this (below1 _ _)) (below1 _ _)
  · simp only [foot, List.cons_append, List.nil_append, List.mem_cons] at hx
    rcases hx with rfl | rfl | rfl | hx
    · omega
    · omega
    · omega
    · have := (own_blk hown x hx).1; omega
  · exact (((hb.trans ((below1 W _).mono hs)).trans ((below1 (W.alloc (.cells CS 183)) _).mono (by simp; omega))).trans ((below1 ((W.alloc (.cells CS 183)).alloc (.map #[] 0)) _).mono (by simp; omega))).drew
/-- 'make' of what is known of so many. -/
theorem make_prog (n : Nat) (hn : n ≤ 16) : ∃ CS : Array Value, CS.toList = prV (List.replicate n (0, 0)) ∧ ∀ W, (Instr.makeSlice 124 (.int .i64 (n : Int)) (.int .i64 (n : Int))).run Tryz.prog W = .ok (.slice (some ⟨W.heap.size, 0, none⟩) n n) (W.alloc (.cells CS 183)) := by
  obtain ⟨i, hi, hz, hsize, hby⟩ := info_parts elemP.info
  refine ⟨_, prV_rep n, fun W => ?_⟩
  have := run_make (P := Tryz.prog) W 124 183 i _ elemP.under hi hz .i64 .i64 (n : Int) (n : Int) (by omega) (by omega) (by rw [hby]; omega) (by omega)
  rw [hsize] at this
  simpa using this
set_option maxRecDepth 100000 in
set_option maxHeartbeats 6400000 in
theorem new_yes (id t v : Int) (n : Nat) (la : Option Addr) (lc : Nat) (es : List En) (w : World) (hl : LogIn w la lc es) (hyes : newOk id n t v 0 0 es = true) :
    Calls Tryz.prog 60 #[.int .i64 id, .int .i64 n, ballotV t v, logV 0 0 la es.length lc] w (RetNew (newMb id n t v es) w) := by
  obtain ⟨_, hok⟩ := newMb_ok hyes
  have hll : es.length ≤ 64 := hok.len64
  have HL : Hid (∀ W, Below w.heap.size w W → Calls Tryz.prog 9 #[logV 0 0 la es.length lc] W fun e w' => e = .returned (.tuple #[.int .i64 (lastF 0 0 es).1, .int .i64 (lastF 0 0 es).2]) ∧ Below W.heap.size W w') := fun W h => last_any 0 0 la lc es W (hl.below h)
  have HV : Hid (∀ W, Calls Tryz.prog 112 #[ballotV t v] W fun e w' => e = .returned (.bool (mayV t v)) ∧ Below W.heap.size W w') := fun W => mayV_any t v W
  have HM : Hid (∀ W, Below w.heap.size w W → Calls Tryz.prog 79 #[logV 0 0 la es.length lc] W fun e w' => e = .returned (.bool (mayL 0 0 es)) ∧ Below W.heap.size W w') := fun W h => may_any 0 0 la lc es W (hl.below h)
  have HC : Hid (∀ W, Below w.heap.size w W → Calls Tryz.prog 80 #[.slice la es.length lc] W (RetRow 82 7 es.length (ensV es) W)) := fun W h => clone_any la lc es W (hl.below h) (by omega)
  unfold newOk at hyes
  rw [decide_eq_true_eq] at hyes
  obtain ⟨hn1, hn16, hid1, hidn, hV, hM, _, hL2⟩ := hyes
  rw [hV] at HV
  rw [hM] at HM
  clear hl hV hM hok
  generalize lastF 0 0 es = LL at HL hL2
  obtain ⟨L1, L2⟩ := LL
  simp only at HL hL2
  have hal := below2 w (.cells #[.int .i64 t, .int .i64 v] 114) (.cells #[.int .i64 0, .int .i64 0, .slice la es.length lc] 37)
  have g0 := alloc2_fst w (.cells #[.int .i64 t, .int .i64 v] 114) (.cells #[.int .i64 0, .int .i64 0, .slice la es.length lc] 37)
  have g1 := alloc2_snd w (.cells #[.int .i64 t, .int .i64 v] 114) (.cells #[.int .i64 0, .int .i64 0, .slice la es.length lc] 37)
  obtain ⟨hc0, hc1, hf0, hf1, hlt⟩ := box2 g0
  obtain ⟨lc0, lc1, lc2, lf0, lf1, lf2, llt⟩ := box3 g1
  have hmm := @run_makeMap Tryz.prog
  obtain ⟨CS, hCS, hmk⟩ := make_prog n (by omega)
  have HCS := Lib.hid hCS
  clear hCS
  go_enter Tryz.func60, Tryz.ntmps60
  go_wp2_with (first
    | (go_at_call 9; refine (HL.out _ hal).mono ?_; rintro e w1 ⟨rfl, hb1⟩; have hw1 := hal.trans (hb1.mono hal.size); have G0 := blk_keep hb1 g0; have G1 := blk_keep hb1 g1; obtain ⟨xc0, xc1, xf0, xf1, xlt⟩ := box2 G0; obtain ⟨yc0, yc1, yc2, yf0, yf1, yf2, ylt⟩ := box3 G1)
    | (go_at_call 112; refine (HV.out _).mono ?_; rintro e w2 ⟨rfl, hb2⟩; have hw2 := hw1.trans (hb2.mono hw1.size); have K0 := blk_keep hb2 G0; have K1 := blk_keep hb2 G1; obtain ⟨kc0, kc1, kf0, kf1, klt⟩ := box2 K0; obtain ⟨jc0, jc1, jc2, jf0, jf1, jf2, jlt⟩ := box3 K1)
    | (go_at_call 79; refine (HM.out _ hw2).mono ?_; rintro e w3 ⟨rfl, hb3⟩; have hw3 := hw2.trans (hb3.mono hw2.size); have N0 := blk_keep hb3 K0; have N1 := blk_keep hb3 K1; obtain ⟨nc0, nc1, nf0, nf1, nlt⟩ := box2 N0; obtain ⟨mc0, mc1, mc2, mf0, mf1, mf2, mlt⟩ := box3 N1)
    | (go_at_call 80; refine (HC.out _ hw3).mono ?_; rintro e w4 ⟨a4, ca4, rfl, own4, hb4⟩; have hw4 := hw3.trans (hb4.mono hw3.size); have P0 := blk_keep hb4 N0; have P1 := blk_keep hb4 N1; obtain ⟨pc0, pc1, pf0, pf1, plt⟩ := box2 P0; obtain ⟨qc0, qc1, qc2, qf0, qf1, qf2, qlt⟩ := box3 P1))
  have P2 := blk_set (i := 2) P1 (.slice a4 es.length ca4)
  have P3 := blk_far (i := 2) P0 (G := w.heap.size + 1) (by omega) (.slice a4 es.length ca4)
  have hw5 := hw4.setCell (p := ⟨w.heap.size + 1, 2, none⟩) (Nat.le_succ _) (.slice a4 es.length ca4)
  have own5 : (w4.setCell ⟨w.heap.size + 1, 2, none⟩ (.slice a4 es.length ca4)).ownsRow w3.heap.size 82 7 (.slice a4 es.length ca4) es.length (ensV es) := ownsRow_setCell_below own4 (a := ⟨w.heap.size + 1, 2, none⟩) (blk_lt N1) _
  have hz3 := hw3.size
  clear hc0 hc1 hf0 hf1 hlt lc0 lc1 lc2 lf0 lf1 lf2 llt xc0 xc1 xf0 xf1 xlt yc0 yc1 yc2 yf0 yf1 yf2 ylt kc0 kc1 kf0 kf1 klt jc0 jc1 jc2 jf0 jf1 jf2 jlt nc0 nc1 nf0 nf1 nlt mc0 mc1 mc2 mf0 mf1 mf2 mlt pc0 pc1 pf0 pf1 plt qc0 qc1 qc2 qf0 qf1 qf2 qlt own4
  generalize w4.setCell ⟨w.heap.size + 1, 2, none⟩ (.slice a4 es.length ca4) = W5 at *
  obtain ⟨pc0, pc1, pf0, pf1, plt⟩ := box2 P3
  obtain ⟨qc0, qc1, qc2, qf0, qf1, qf2, qlt⟩ := box3 P2
  go_cut [8, 9] (fun p q wx => ∃ bb aa, p = .pointer (some ⟨bb, 0, none⟩) ∧ q = .int .i64 0 ∧ MAt wx bb aa (newMb id n t v es) ∧ (∀ x ∈ foot bb aa, w.heap.size ≤ x) ∧ Below w.heap.size w wx)
  case rest =>
    obtain ⟨bb, aa, rfl, rfl, HM, hF, hB⟩ := hcut
    go_wp2
    go_ret2
    exact ⟨bb, aa, rfl, HM, hF, hB⟩
  case first =>
    go_region_held3 (fun W => W.cell? ⟨w.heap.size, 0, none⟩ = some (.int .i64 t) ∧ W.cell? ⟨w.heap.size, 1, none⟩ = some (.int .i64 v) ∧ W.cell? ⟨w.heap.size + 1, 0, none⟩ = some (.int .i64 0) ∧ W.cell? ⟨w.heap.size + 1, 1, none⟩ = some (.int .i64 0) ∧ W.cell? ⟨w.heap.size + 1, 2, none⟩ = some (.slice a4 es.length ca4)) (first | with_reducible exact ⟨pc0, pc1, qc0, qc1, qc2⟩ | exact ⟨blk_cell (blk_alloc (blk_alloc (blk_alloc P3 _) _) _) 0, blk_cell (blk_alloc (blk_alloc (blk_alloc P3 _) _) _) 1, blk_cell (blk_alloc (blk_alloc (blk_alloc P2 _) _) _) 0, blk_cell (blk_alloc (blk_alloc (blk_alloc P2 _) _) _) 1, blk_cell (blk_alloc (blk_alloc (blk_alloc P2 _) _) _) 2⟩ | go_keep) (fail)
    all_goals (go_wp2_with fail; go_meet)
    all_goals (first
      | (obtain ⟨q1, q2, q3⟩ := MAt.newA (id := id) (t := t) (v := v) hw5 own5 hz3 ⟨by omega, by omega⟩ HCS.out _ rfl; exact ⟨_, _, rfl, rfl, q1, q2, q3⟩)
      | (obtain ⟨q1, q2, q3⟩ := MAt.newB (id := id) (t := t) (v := v) hw5 own5 hz3 ⟨by omega, by omega⟩ HCS.out _ rfl; exact ⟨_, _, rfl, rfl, q1, q2, q3⟩))
end Go.Proofs.YthjdbmfobmnnlaaGreat
