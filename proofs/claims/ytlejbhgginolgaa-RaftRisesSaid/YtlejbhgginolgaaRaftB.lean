/-
  A member's role, ballot, what is settled, its last entry, its log, what it says.
-/
import Derived.Test.YtlejbhgginolgaaRaftA
namespace Go.Proofs.Ytlejbhgginolgaa
open Go.RowKit
set_option linter.unusedVariables false
/-- Nine cells written one by one. -/
abbrev set9 (w : World) (F : Nat) (x0 x1 x2 x3 x4 x5 x6 x7 x8 : Value) : World := ((((((((w.setCell ⟨F, 0, none⟩ x0).setCell ⟨F, 1, none⟩ x1).setCell ⟨F, 2, none⟩ x2).setCell ⟨F, 3, none⟩ x3).setCell ⟨F, 4, none⟩ x4).setCell ⟨F, 5, none⟩ x5).setCell ⟨F, 6, none⟩ x6).setCell ⟨F, 7, none⟩ x7).setCell ⟨F, 8, none⟩ x8
theorem set9_blk {w : World} {F : Nat} {y0 y1 y2 y3 y4 y5 y6 y7 y8 : Value} {t : TypeId} (h : w.heap[F]? = some (.cells #[y0, y1, y2, y3, y4, y5, y6, y7, y8] t)) (x0 x1 x2 x3 x4 x5 x6 x7 x8 : Value) : (set9 w F x0 x1 x2 x3 x4 x5 x6 x7 x8).heap[F]? = some (.cells #[x0, x1, x2, x3, x4, x5, x6, x7, x8] t) := by
  have h0 : (w.setCell ⟨F, 0, none⟩ x0).heap[F]? = some (.cells #[x0, y1, y2, y3, y4, y5, y6, y7, y8] t) := blk_set h x0
  have h1 : ((w.setCell ⟨F, 0, none⟩ x0).setCell ⟨F, 1, none⟩ x1).heap[F]? = some (.cells #[x0, x1, y2, y3, y4, y5, y6, y7, y8] t) := blk_set h0 x1
  have h2 : (((w.setCell ⟨F, 0, none⟩ x0).setCell ⟨F, 1, none⟩ x1).setCell ⟨F, 2, none⟩ x2).heap[F]? = some (.cells #[x0, x1, x2, y3, y4, y5, y6, y7, y8] t) := blk_set h1 x2
  have h3 : ((((w.setCell ⟨F, 0, none⟩ x0).setCell ⟨F, 1, none⟩ x1).setCell ⟨F, 2, none⟩ x2).setCell ⟨F, 3, none⟩ x3).heap[F]? = some (.cells #[x0, x1, x2, x3, y4, y5, y6, y7, y8] t) := blk_set h2 x3
  have h4 : (((((w.setCell ⟨F, 0, none⟩ x0).setCell ⟨F, 1, none⟩ x1).setCell ⟨F, 2, none⟩ x2).setCell ⟨F, 3, none⟩ x3).setCell ⟨F, 4, none⟩ x4).heap[F]? = some (.cells #[x0, x1, x2, x3, x4, y5, y6, y7, y8] t) := blk_set h3 x4
  have h5 : ((((((w.setCell ⟨F, 0, none⟩ x0).setCell ⟨F, 1, none⟩ x1).setCell ⟨F, 2, none⟩ x2).setCell ⟨F, 3, none⟩ x3).setCell ⟨F, 4, none⟩ x4).setCell ⟨F, 5, none⟩ x5).heap[F]? = some (.cells #[x0, x1, x2, x3, x4, x5, y6, y7, y8] t) := blk_set h4 x5
  have h6 : (((((((w.setCell ⟨F, 0, none⟩ x0).setCell ⟨F, 1, none⟩ x1).setCell ⟨F, 2, none⟩ x2).setCell ⟨F, 3, none⟩ x3).setCell ⟨F, 4, none⟩ x4).setCell ⟨F, 5, none⟩ x5).setCell ⟨F, 6, none⟩ x6).heap[F]? = some (.cells #[x0, x1, x2, x3, x4, x5, x6, y7, y8] t) := blk_set h5 x6
  have h7 : ((((((((w.setCell ⟨F, 0, none⟩ x0).setCell ⟨F, 1, none⟩ x1).setCell ⟨F, 2, none⟩ x2).setCell ⟨F, 3, none⟩ x3).setCell ⟨F, 4, none⟩ x4).setCell ⟨F, 5, none⟩ x5).setCell ⟨F, 6, none⟩ x6).setCell ⟨F, 7, none⟩ x7).heap[F]? = some (.cells #[x0, x1, x2, x3, x4, x5, x6, x7, y8] t) := blk_set h6 x7
  have h8 : (((((((((w.setCell ⟨F, 0, none⟩ x0).setCell ⟨F, 1, none⟩ x1).setCell ⟨F, 2, none⟩ x2).setCell ⟨F, 3, none⟩ x3).setCell ⟨F, 4, none⟩ x4).setCell ⟨F, 5, none⟩ x5).setCell ⟨F, 6, none⟩ x6).setCell ⟨F, 7, none⟩ x7).setCell ⟨F, 8, none⟩ x8).heap[F]? = some (.cells #[x0, x1, x2, x3, x4, x5, x6, x7, x8] t) := blk_set h7 x8
  exact h8
theorem set9_below {B : Nat} {w0 w : World} {F : Nat} (h : Below B w0 w) (hF : B ≤ F) (x0 x1 x2 x3 x4 x5 x6 x7 x8 : Value) : Below B w0 (set9 w F x0 x1 x2 x3 x4 x5 x6 x7 x8) :=
  ((((((((h.setCell (p := ⟨F, 0, none⟩) hF x0).setCell (p := ⟨F, 1, none⟩) hF x1).setCell (p := ⟨F, 2, none⟩) hF x2).setCell (p := ⟨F, 3, none⟩) hF x3).setCell (p := ⟨F, 4, none⟩) hF x4).setCell (p := ⟨F, 5, none⟩) hF x5).setCell (p := ⟨F, 6, none⟩) hF x6).setCell (p := ⟨F, 7, none⟩) hF x7).setCell (p := ⟨F, 8, none⟩) hF x8
theorem set9_far {w : World} {F G : Nat} {o : Obj} (h : w.heap[F]? = some o) (hne : F ≠ G) (x0 x1 x2 x3 x4 x5 x6 x7 x8 : Value) : (set9 w G x0 x1 x2 x3 x4 x5 x6 x7 x8).heap[F]? = some o :=
  blk_far (blk_far (blk_far (blk_far (blk_far (blk_far (blk_far (blk_far (blk_far h hne x0) hne x1) hne x2) hne x3) hne x4) hne x5) hne x6) hne x7) hne x8
theorem fro9 {w : World} {F : Nat} {cs : Array Value} {t : TypeId} (h : w.heap[F]? = some (.cells cs t)) : w.frozen? ⟨F, 0, none⟩ = false ∧ w.frozen? ⟨F, 1, none⟩ = false ∧ w.frozen? ⟨F, 2, none⟩ = false ∧ w.frozen? ⟨F, 3, none⟩ = false ∧ w.frozen? ⟨F, 4, none⟩ = false ∧ w.frozen? ⟨F, 5, none⟩ = false ∧ w.frozen? ⟨F, 6, none⟩ = false ∧ w.frozen? ⟨F, 7, none⟩ = false ∧ w.frozen? ⟨F, 8, none⟩ = false ∧ w.frozen? ⟨F, 9, none⟩ = false :=
  ⟨blk_frozen h 0, blk_frozen h 1, blk_frozen h 2, blk_frozen h 3, blk_frozen h 4, blk_frozen h 5, blk_frozen h 6, blk_frozen h 7, blk_frozen h 8, blk_frozen h 9⟩
section
variable {w : World} {b : Nat} {a : MA} {m : Mb}
theorem role_any (h : MAt w b a m) : Calls Try.prog 12 #[.pointer (some ⟨b, 0, none⟩)] w fun e w' => e = .returned (.int .i64 m.role) ∧ Below w.heap.size w w' := by
  obtain ⟨c0, c1, c2, c3, c4, c5, c6, c7, c8, c9, hlt⟩ := box10 h.blk
  go_enter Try.func12, Try.ntmps12
  go_wp2
  go_ret
  exact ⟨rfl, below0 _⟩
theorem settled_any (h : MAt w b a m) : Calls Try.prog 15 #[.pointer (some ⟨b, 0, none⟩)] w fun e w' => e = .returned (.int .i64 m.settled) ∧ Below w.heap.size w w' := by
  obtain ⟨c0, c1, c2, c3, c4, c5, c6, c7, c8, c9, hlt⟩ := box10 h.blk
  go_enter Try.func15, Try.ntmps15
  go_wp2
  go_ret
  exact ⟨rfl, below0 _⟩
theorem ballot_any (h : MAt w b a m) : Calls Try.prog 11 #[.pointer (some ⟨b, 0, none⟩)] w fun e w' => e = .returned (ballotV m.term m.vote) ∧ Below w.heap.size w w' := by
  obtain ⟨c0, c1, c2, c3, c4, c5, c6, c7, c8, c9, hlt⟩ := box10 h.blk
  go_enter Try.func11, Try.ntmps11
  go_wp2
  refine bodyPost_ret (v := ballotV m.term m.vote) (by simp [results, Try.results11, go_sem]) rfl ?_
  exact ⟨rfl, below1 _ _⟩
set_option maxHeartbeats 1600000 in
theorem mlast_any (h : MAt w b a m) : Calls Try.prog 31 #[.pointer (some ⟨b, 0, none⟩)] w fun e w' => e = .returned (.int .i64 (lastF 0 0 m.log).1) ∧ Below w.heap.size w w' := by
  obtain ⟨c0, c1, c2, c3, c4, c5, c6, c7, c8, c9, hlt⟩ := box10 h.blk
  have HL := Lib.hid (last_any 0 0 a.la a.lc m.log w (LogIn.of_own h.log))
  generalize lastF 0 0 m.log = L at HL ⊢
  obtain ⟨L1, L2⟩ := L
  go_enter Try.func31, Try.ntmps31
  go_wp2_with (go_at_call 21; refine HL.out.mono ?_; rintro e w1 ⟨rfl, hb1⟩)
  go_ret
  exact ⟨rfl, hb1⟩
set_option maxRecDepth 100000 in
set_option maxHeartbeats 3200000 in
theorem say_any (h : MAt w b a m) (kind k : Int) : Calls Try.prog 29 #[.pointer (some ⟨b, 0, none⟩), .int .i64 kind, .int .i64 k] w fun e w' => e = .returned ((m.say kind k).val none 0) ∧ Below w.heap.size w w' := by
  have hal := below1 w (.cells #[.int .i64 0, .int .i64 0, .int .i64 0, .int .i64 0, .int .i64 0, .int .i64 0, .int .i64 0, .bool false, .slice none 0 0] 37)
  obtain ⟨c0, c1, c2, c3, c4, c5, c6, c7, c8, c9, hlt⟩ := box10 (h.below hal).blk
  have g := blk_new w (.cells #[.int .i64 0, .int .i64 0, .int .i64 0, .int .i64 0, .int .i64 0, .int .i64 0, .int .i64 0, .bool false, .slice none 0 0] 37)
  go_enter Try.func29, Try.ntmps29
  go_wp2
  generalize w.alloc (.cells #[.int .i64 0, .int .i64 0, .int .i64 0, .int .i64 0, .int .i64 0, .int .i64 0, .int .i64 0, .bool false, .slice none 0 0] 37) = W0 at *
  obtain ⟨d0, d1, d2, d3, d4, d5, d6, d7, d8⟩ := box9 g
  have hglt := blk_lt g
  obtain ⟨e0, e1, e2, e3, e4, e5, e6, e7, e8, _⟩ := fro9 g
  go_still_tail 12, (by kernel_rfl)
  show wpList _ _ _ _ _ W0.drew
  go_wp2
  obtain ⟨k0, k1, k2, k3, k4, k5, k6, k7, k8⟩ := box9 (set9_blk g (.int .i64 kind) (.int .i64 m.id) (.int .i64 k) (.int .i64 m.term) (.int .i64 0) (.int .i64 0) (.int .i64 0) (.bool false) (.slice none 0 0))
  refine bodyPost_ret (v := (m.say kind k).val none 0) (by simp [results, Try.results29, go_sem, k0, k1, k2, k3, k4, k5, k6, k7, k8, Mb.say]) rfl ?_
  exact ⟨rfl, (set9_below hal (Nat.le_refl _) _ _ _ _ _ _ _ _ _).drew⟩
/-- A log of one's own. -/
def RetLogM (es : List En) (w : World) (en : Ending) (w' : World) : Prop := ∃ A c, en = .returned (logV 0 0 A es.length c) ∧ w'.ownsRow w.heap.size 47 7 (.slice A es.length c) es.length (ensV es) ∧ Below w.heap.size w w'
set_option maxHeartbeats 1600000 in
theorem mlog_any (h : MAt w b a m) (hl : m.log.length ≤ 64) : Calls Try.prog 14 #[.pointer (some ⟨b, 0, none⟩)] w (RetLogM m.log w) := by
  have hw0 := below2 w (.cells #[.int .i64 0, .int .i64 0, .slice none 0 0] 26) (.cells #[.int .i64 0, .int .i64 0, .slice a.la m.log.length a.lc] 26)
  have g0 := alloc2_fst w (.cells #[.int .i64 0, .int .i64 0, .slice none 0 0] 26) (.cells #[.int .i64 0, .int .i64 0, .slice a.la m.log.length a.lc] 26)
  have g1 := alloc2_snd w (.cells #[.int .i64 0, .int .i64 0, .slice none 0 0] 26) (.cells #[.int .i64 0, .int .i64 0, .slice a.la m.log.length a.lc] 26)
  obtain ⟨c0, c1, c2, c3, c4, c5, c6, c7, c8, c9, hlt⟩ := box10 h.blk
  have HC : Hid (∀ W, Below w.heap.size w W → Calls Try.prog 24 #[.slice a.la m.log.length a.lc] W (RetRow 47 7 m.log.length (ensV m.log) W)) := fun W hb => clone_any a.la a.lc m.log W ((LogIn.of_own h.log).below hb) (by omega)
  go_enter Try.func14, Try.ntmps14
  go_wp2_with (go_at_call 24; refine (HC.out _ hw0).mono ?_; rintro e w3 ⟨a3, c3, rfl, own3, hb3⟩; have G0 := blk_keep hb3 g0; have G1 := blk_keep hb3 g1; obtain ⟨x0, x1, x2, xf0, xf1, xf2, xlt⟩ := box3 G0; obtain ⟨y0, y1, y2, yf0, yf1, yf2, ylt⟩ := box3 G1)
  have hs1 := blk_lt G1
  obtain ⟨q0, q1, q2, _⟩ := box3 (set3_blk (blk_far (i := 2) G0 (show w.heap.size ≠ w.heap.size + 1 by omega) (.slice a3 m.log.length c3)) (.int .i64 0) (.int .i64 0) (.slice a3 m.log.length c3))
  refine bodyPost_ret (v := logV 0 0 a3 m.log.length c3) (by simp [results, Try.results14, go_sem, q0, q1, q2]) rfl ?_
  have e2 : ((w.alloc (.cells #[.int .i64 0, .int .i64 0, .slice none 0 0] 26)).alloc (.cells #[.int .i64 0, .int .i64 0, .slice a.la m.log.length a.lc] 26)).heap.size = w.heap.size + 2 := by simp
  rw [e2] at own3
  exact ⟨a3, c3, rfl, own_base (own_set3 (ownsRow_setCell_below own3 (a := ⟨w.heap.size + 1, 2, none⟩) (by show w.heap.size + 1 < _; omega) _) (by omega) _ _ _) (by omega), set3_below ((hw0.trans (hb3.mono hw0.size)).setCell (p := ⟨w.heap.size + 1, 2, none⟩) (Nat.le_succ _) _) (Nat.le_refl _) _ _ _⟩
theorem VotesAt.size {w : World} {b : Nat} {vs : List Int} (h : VotesAt w b vs) : ∃ es clock, w.heap[b]? = some (.map es clock) ∧ es.size = vs.length := by
  obtain ⟨D, ⟨es, clock, hb, F, hs, rfl⟩, _, hs⟩ := h
  exact ⟨es, clock, hb, by rw [← hs]; simp [Maps.size, length_sorted]⟩
theorem won_any (h : MAt w b a m) (hok : MbOk m) : Calls Try.prog 25 #[.pointer (some ⟨b, 0, none⟩)] w fun e w' => e = .returned (.bool m.won) ∧ Below w.heap.size w w' := by
  obtain ⟨c0, c1, c2, c3, c4, c5, c6, c7, c8, c9, hlt⟩ := box10 h.blk
  have n1 := hok.n1
  have n16 := hok.n16
  have HM : Hid (∀ W, Calls Try.prog 44 #[.int .i64 (m.prog.length : Nat)] W fun e w' => e = .returned (.int .i64 ((majN m.prog.length : Nat) : Int)) ∧ W = w') := fun W => by
    have := majority_any (m.prog.length : Int) (by omega) (by omega) W
    rw [if_neg (by omega)] at this
    unfold majN
    rwa [show ((m.prog.length / 2 + 1 : Nat) : Int) = (m.prog.length : Int) / 2 + 1 by omega]
  have HV : Hid (∀ n, Sem.run Try.prog (Builtin.len_ #[63] 3 #[.map (some a.vb)]) (w.drewN n) = .ok (.int .i64 (m.votes.length : Nat)) (w.drewN n)) := fun n => VotesAt.len (VotesAt.keep (w' := w.drewN n) h.votes rfl) 3
  unfold Mb.won
  generalize majN m.prog.length = q at HM ⊢
  generalize m.votes.length = k at HV ⊢
  go_enter Try.func25, Try.ntmps25
  go_wp2
  go_quiet ((first | (rw [HV.out]; exact ⟨rfl, rfl⟩) | (go_at_call 44; exact Calls.quiet_of_same ((HM.out _).mono fun _ _ h => ⟨h.1, h.2.symm⟩))))
  go_wp2
  go_ret
  exact ⟨rfl, Below.many (below0 _) _⟩
end
end Go.Proofs.Ytlejbhgginolgaa
