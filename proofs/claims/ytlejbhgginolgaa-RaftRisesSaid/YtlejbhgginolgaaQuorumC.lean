/-
  Layer 6: up to which index all is settled.
-/
import Derived.Test.YtlejbhgginolgaaQuorumB
import Derived.Test.YtlejbhgginolgaaEntriesE
namespace Go.Proofs.Ytlejbhgginolgaa
open Go.RowKit
set_option linter.unusedVariables false
/-- Up to which index all is settled, from a place of the log downwards. -/
def commitGo (B T : Int) (l : List En) (term settled : Int) : Nat → Int
  | 0 => if settled < B ∧ T = term then B else settled
  | k + 1 => if settled < B + ((k + 1 : Nat) : Int) then (if endT (l.take (k + 1)) T = term then B + ((k + 1 : Nat) : Int) else commitGo B T l term settled k) else settled
def commitAt (B T : Int) (l : List En) (term settled i : Int) : Int := if i < B then settled else commitGo B T l term settled (i - B).toNat
def commitF (b t : Int) (es : List En) (ms : List Int) (term settled : Int) : Int := commitAt (fairL b t es).1 (fairL b t es).2.1 (fairL b t es).2.2 term settled (min ((fairL b t es).1 + (fairL b t es).2.2.length) (mostL ms))
theorem commitAt_low {B T : Int} {l : List En} {term settled i : Int} (h : i < B) : commitAt B T l term settled i = settled := if_pos h
theorem commitAt_done {B T : Int} {l : List En} {term settled i : Int} (h : B ≤ i) (hs : i ≤ settled) : commitAt B T l term settled i = settled := by
  unfold commitAt
  rw [if_neg (by omega)]
  match hj : (i - B).toNat with
  | 0 => unfold commitGo; rw [if_neg (fun h => by omega)]
  | k + 1 => unfold commitGo; rw [if_neg (by omega)]
theorem commitAt_hit {B T : Int} {l : List En} {term settled i : Int} (h : B ≤ i) (hs : settled < i) (ht : endT (l.take (i - B).toNat) T = term) : commitAt B T l term settled i = i := by
  unfold commitAt
  rw [if_neg (by omega)]
  match hj : (i - B).toNat with
  | 0 =>
    rw [hj, List.take_zero, endT_nil] at ht
    unfold commitGo; rw [if_pos ⟨by omega, ht⟩]; omega
  | k + 1 =>
    rw [hj] at ht
    unfold commitGo; rw [if_pos (by omega), if_pos ht]; omega
theorem commitAt_next {B T : Int} {l : List En} {term settled i : Int} (h : B ≤ i) (hs : settled < i) (ht : endT (l.take (i - B).toNat) T ≠ term) : commitAt B T l term settled i = commitAt B T l term settled (i - 1) := by
  have h1 : commitAt B T l term settled i = commitGo B T l term settled (i - B).toNat := if_neg (by omega)
  rw [h1]
  match hj : (i - B).toNat with
  | 0 =>
    rw [hj, List.take_zero, endT_nil] at ht
    unfold commitGo
    rw [if_neg (fun h => ht h.2), commitAt_low (by omega)]
  | k + 1 =>
    rw [hj] at ht
    unfold commitAt
    rw [if_neg (by omega), show (i - 1 - B).toNat = k by omega]
    rw [commitGo, if_pos (by omega), if_neg ht]
/-- What holds each time that Commit comes to its label. -/
def ComInv (b t : Int) (a : Option Addr) (cap : Nat) (es : List En) (am : Option Addr) (cm : Nat) (ms : List Int) (term settled : Int) (B T : Int) (l : List En) (R : Int) (w : World) (a' : Act) (wr : World) : Prop :=
  ∃ (i : Int) (u : Nat → Value), -9223372036854775807 ≤ i + 1 ∧ i ≤ B + l.length ∧ commitAt B T l term settled i = R ∧ wr.heap[w.heap.size]? = some (.cells #[.int .i64 b, .int .i64 t, .slice a es.length cap] 26) ∧ Below w.heap.size w wr ∧ a' = { tmps := #[logV b t a es.length cap, .slice am ms.length cm, .int .i64 term, .int .i64 settled, .pointer (some ⟨w.heap.size, 0, none⟩), u 5, u 6, u 7, .int .i64 0, u 9, u 10, .int .i64 i, u 12, u 13, u 14, u 15, u 16, u 17, u 18, u 19, u 20, u 21, u 22, u 23, u 24, u 25, u 26, u 27, u 28, u 29, u 30, u 31, u 32, u 33, u 34, u 35, u 36, u 37, u 38, u 39, u 40, u 41], defers := [] }
theorem ComInv.mk {b t : Int} {a : Option Addr} {cap : Nat} {es : List En} {am : Option Addr} {cm : Nat} {ms : List Int} {term settled : Int} {B T : Int} {l : List En} {R : Int} {w : World} {a' : Act} {wr : World} {i : Int}
    (h0 : -9223372036854775807 ≤ i + 1) (h1 : i ≤ B + l.length) (h2 : commitAt B T l term settled i = R) (h3 : wr.heap[w.heap.size]? = some (.cells #[.int .i64 b, .int .i64 t, .slice a es.length cap] 26)) (h4 : Below w.heap.size w wr) (h5 : a' = { tmps := #[logV b t a es.length cap, .slice am ms.length cm, .int .i64 term, .int .i64 settled, .pointer (some ⟨w.heap.size, 0, none⟩), a'.tmps.getD 5 undef, a'.tmps.getD 6 undef, a'.tmps.getD 7 undef, .int .i64 0, a'.tmps.getD 9 undef, a'.tmps.getD 10 undef, .int .i64 i, a'.tmps.getD 12 undef, a'.tmps.getD 13 undef, a'.tmps.getD 14 undef, a'.tmps.getD 15 undef, a'.tmps.getD 16 undef, a'.tmps.getD 17 undef, a'.tmps.getD 18 undef, a'.tmps.getD 19 undef, a'.tmps.getD 20 undef, a'.tmps.getD 21 undef, a'.tmps.getD 22 undef, a'.tmps.getD 23 undef, a'.tmps.getD 24 undef, a'.tmps.getD 25 undef, a'.tmps.getD 26 undef, a'.tmps.getD 27 undef, a'.tmps.getD 28 undef, a'.tmps.getD 29 undef, a'.tmps.getD 30 undef, a'.tmps.getD 31 undef, a'.tmps.getD 32 undef, a'.tmps.getD 33 undef, a'.tmps.getD 34 undef, a'.tmps.getD 35 undef, a'.tmps.getD 36 undef, a'.tmps.getD 37 undef, a'.tmps.getD 38 undef, a'.tmps.getD 39 undef, a'.tmps.getD 40 undef, a'.tmps.getD 41 undef], defers := [] }) : ComInv b t a cap es am cm ms term settled B T l R w a' wr :=
  ⟨i, fun k => a'.tmps.getD k undef, h0, h1, h2, h3, h4, h5⟩
theorem mostL_wf {ns : List Int} (h : ∀ n ∈ ns, (Lit.int .i64 n).wf = true) : -9223372036854775808 ≤ mostL ns ∧ mostL ns ≤ 9223372036854775807 := by
  by_cases h0 : ns.length = 0
  · unfold mostL; rw [if_pos h0]; omega
  · have := h _ (most_spec h0).1
    simpa [Lit.wf, IntKind.min, IntKind.max, IntKind.bits, IntKind.signed] using this
set_option maxRecDepth 100000 in
set_option maxHeartbeats 6400000 in
theorem commit_any (b t : Int) (a : Option Addr) (cap : Nat) (es : List En) (am : Option Addr) (cm : Nat) (ms : List Int) (term settled : Int) (w : World) (hl : LogIn w a cap es) (hm : IntsIn w am cm ms) (hml : ms.length ≤ 1000000) :
    Calls Try.prog 45 #[logV b t a es.length cap, .slice am ms.length cm, .int .i64 term, .int .i64 settled] w fun e w' => e = .returned (.int .i64 (commitF b t es ms term settled)) ∧ Below w.heap.size w w' := by
  have HLa : Hid (∀ W, Below w.heap.size w W → Calls Try.prog 21 #[logV b t a es.length cap] W fun e w' => e = .returned (.tuple #[.int .i64 (lastF b t es).1, .int .i64 (lastF b t es).2]) ∧ Below W.heap.size W w') := fun W h => last_any b t a cap es W (hl.below h)
  have HTe : Hid (∀ W i, Below w.heap.size w W → Calls Try.prog 41 #[logV b t a es.length cap, .int .i64 i] W fun e w' => e = .returned (.tuple #[.int .i64 (termF b t es i).1, .bool (termF b t es i).2]) ∧ Below W.heap.size W w') := fun W i h => term_any b t a cap es i W (hl.below h)
  have HMo : Hid (∀ W, Below w.heap.size w W → Calls Try.prog 51 #[.slice am ms.length cm] W fun e w' => e = .returned (.int .i64 (mostL ms)) ∧ Below W.heap.size W w') := fun W h => most_any am cm ms W (hm.cells.below h) hm.none_ hml
  have hmw := mostL_wf hm.wf
  have hmay := fairL_may b t es
  clear hl hm hml
  unfold commitF
  unfold lastF at HLa
  unfold termF at HTe
  generalize mostL ms = M at HMo hmw ⊢
  generalize fairL b t es = F at HLa HTe hmay ⊢
  obtain ⟨B, T, l⟩ := F
  simp only at HLa HTe hmay ⊢
  obtain ⟨h1, h2, _, _, _, h6, hx⟩ := mayL_true hmay
  have h6' : (l.length : Int) ≤ 64 := by omega
  have HTi : Hid (∀ W i, Below w.heap.size w W → B ≤ i → i ≤ B + l.length → Calls Try.prog 41 #[logV b t a es.length cap, .int .i64 i] W fun e w' => e = .returned (.tuple #[.int .i64 (endT (l.take (i - B).toNat) T), .bool true]) ∧ Below W.heap.size W w') := fun W i h hb hi => by
    have := HTe.out W i h
    rwa [termL_at (b := B) (t := T) (es := l) (i := i) (i - B).toNat (by omega) (by omega)] at this
  have HTo : Hid (∀ W i, Below w.heap.size w W → i < B → Calls Try.prog 41 #[logV b t a es.length cap, .int .i64 i] W fun e w' => e = .returned (.tuple #[.int .i64 0, .bool false]) ∧ Below W.heap.size W w') := fun W i h hb => by
    have := HTe.out W i h
    rwa [termL_out (.inl hb)] at this
  clear hmay hx HTe
  generalize endT l T = LT at HLa
  obtain ⟨I, hI⟩ : ∃ I, min (B + (l.length : Int)) M = I := ⟨_, rfl⟩
  have hI1 : I ≤ B + l.length := by omega
  have hI2 : -9223372036854775807 ≤ I + 1 := by omega
  obtain ⟨R, hR⟩ : ∃ R, commitAt B T l term settled I = R := ⟨_, rfl⟩
  rw [hI, hR]
  have HI := Lib.hid hI
  have HR := Lib.hid hR
  clear hI hR
  go_enter Try.func45, Try.ntmps45
  go_wp2
  refine scope_loop 0 (ComInv b t a cap es am cm ms term settled B T l R w) (fun a' _ => match a'.tmps.getD 11 undef with | .int _ n => (n - B + 1).toNat | _ => 0) rfl ?_ ?_
  · rintro a' wr ⟨i, u, hi0, hi1, hiR, g0, hw0, rfl⟩
    have HiR := Lib.hid hiR
    clear hiR
    obtain ⟨hc0, hc1, hc2, hf0, hf1, hf2, hlt0⟩ := box3 g0
    by_cases hlow : i < B
    · have HRR : Hid (R = settled) := by rw [Hid, ← HiR.out, commitAt_low hlow]
      go_wp2_with (go_at_call 41; refine (HTo.out _ _ hw0 hlow).mono ?_; rintro e w1 ⟨rfl, hb1⟩)
      simp only [Exit.jump]
      go_ret
      rw [HRR.out]
      exact ⟨rfl, hw0.trans (hb1.mono hw0.size)⟩
    · have hBi : B ≤ i := by omega
      have HT := Lib.hid (HTi.out wr i hw0 hBi hi1)
      by_cases hs : settled < i
      · by_cases ht : endT (l.take (i - B).toNat) T = term
        · have HRR : Hid (R = i) := by rw [Hid, ← HiR.out, commitAt_hit hBi hs ht]
          rw [ht] at HT
          clear ht
          go_wp2_with (go_at_call 41; refine (HT.out).mono ?_; rintro e w1 ⟨rfl, hb1⟩)
          simp only [Exit.jump]
          go_ret
          rw [HRR.out]
          exact ⟨rfl, hw0.trans (hb1.mono hw0.size)⟩
        · have HRR : Hid (commitAt B T l term settled (i - 1) = R) := by rw [Hid, ← HiR.out, commitAt_next hBi hs ht]
          generalize endT (l.take (i - B).toNat) T = et at HT ht
          have ht1 : (et == term) = false := by rw [beq_eq_false_iff_ne]; exact ht
          clear ht
          go_wp2_with (go_at_call 41; refine (HT.out).mono ?_; rintro e w1 ⟨rfl, hb1⟩)
          refine wp_goto (And.intro rfl (And.intro (ComInv.mk (i := i - 1) (by omega) (by omega) HRR.out (blk_keep hb1 g0) (hw0.trans (hb1.mono hw0.size)) rfl) ?_))
          show (i - 1 - B + 1).toNat < (i - B + 1).toNat
          omega
      · have HRR : Hid (R = settled) := by rw [Hid, ← HiR.out, commitAt_done hBi (by omega)]
        generalize endT (l.take (i - B).toNat) T = et at HT
        go_wp2_with (go_at_call 41; refine (HT.out).mono ?_; rintro e w1 ⟨rfl, hb1⟩)
        simp only [Exit.jump]
        go_ret
        rw [HRR.out]
        exact ⟨rfl, hw0.trans (hb1.mono hw0.size)⟩
  · intro hp
    go_wp2_with (first
      | (go_at_call 21; refine (HLa.out _ (below1 _ _)).mono ?_; rintro e w1 ⟨rfl, hb1⟩; have hw0 := alloc_below hb1; have g0 := blk_keep hb1 (blk_new w _); obtain ⟨hc0, hc1, hc2, hf0, hf1, hf2, hlt0⟩ := box3 g0)
      | (go_at_call 51; refine (HMo.out _ hw0).mono ?_; rintro e w2 ⟨rfl, hb2⟩; replace hw0 := hw0.trans (hb2.mono hw0.size); replace g0 := blk_keep hb2 g0; obtain ⟨hc0, hc1, hc2, hf0, hf1, hf2, hlt0⟩ := box3 g0))
    go_step3
    refine (by assumption : ∀ (a : Act) (w : World), _ → _) _ _ (hp _ _ ?_)
    rw [HI.out]
    exact ComInv.mk (i := I) hI2 hI1 HR.out g0 hw0 rfl
end Go.Proofs.Ytlejbhgginolgaa
