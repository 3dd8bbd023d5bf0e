/-
  Layer 4, the document's answer: a log without its entries up to an index.
-/
import Derived.Test.YtifbcdjabdfeeaaEntriesS
namespace Go.Proofs.Ytifbcdjabdfeeaa
open Go.RowKit
set_option linter.unusedVariables false
set_option maxRecDepth 100000 in
set_option maxHeartbeats 3200000 in
theorem refPack_any (b t : Int) (a : Option Addr) (cap : Nat) (es : List En) (i : Int) (hwi : (Lit.int .i64 i).wf = true) (w : World) (hl : LogIn w a cap es) :
    Calls Try.prog 37 #[logV b t a es.length cap, .int .i64 i] w (RetLog (packF b t es i) w) := by
  have HMay : Hid (∀ W, Below w.heap.size w W → Calls Try.prog 38 #[logV b t a es.length cap] W fun e w' => e = .returned (.bool (mayL b t es)) ∧ Below W.heap.size W w') := fun W h => refMay_any b t a cap es W (hl.below h)
  cases hmay : mayL b t es with
  | false =>
    rw [show packF b t es i = (0, 0, [], 1) by unfold packF; rw [if_neg (by simp [hmay])]]
    rw [hmay] at HMay
    clear hl
    go_enter Try.func37, Try.ntmps37
    go_wp2_with (first
      | (go_at_call 38; refine (HMay.out _ (below2 _ _ _)).mono ?_; rintro e w1 ⟨rfl, hb1⟩; have hw0 := alloc2_below hb1; have g0 := blk_keep hb1 (alloc2_fst _ _ _); have g1 := blk_keep hb1 (alloc2_snd _ _ _); obtain ⟨hc0, hc1, hc2, hf0, hf1, hf2, hlt0⟩ := box3 g0; obtain ⟨rc0, rc1, rc2, rf0, rf1, rf2, hlt1⟩ := box3 g1))
    obtain ⟨q0, q1, q2, _⟩ := box3 (set3_blk g1 (.int .i64 0) (.int .i64 0) (.slice none 0 0))
    refine bodyPost_ret (v := .tuple #[logV 0 0 none 0 0, .int .i64 1]) (by simp [results, Try.results37, go_sem, q0, q1, q2]) rfl ?_
    exact RetLog.none 1 rfl (set3_below hw0 (by omega) _ _ _)
  | true =>
    rw [hmay] at HMay
    by_cases hi : 1099511627776 < i
    · rw [show packF b t es i = (0, 0, [], 1) by unfold packF; rw [if_neg (by omega)]]
      clear hl
      go_enter Try.func37, Try.ntmps37
      go_wp2_with (first
        | (go_at_call 38; refine (HMay.out _ (below2 _ _ _)).mono ?_; rintro e w1 ⟨rfl, hb1⟩; have hw0 := alloc2_below hb1; have g0 := blk_keep hb1 (alloc2_fst _ _ _); have g1 := blk_keep hb1 (alloc2_snd _ _ _); obtain ⟨hc0, hc1, hc2, hf0, hf1, hf2, hlt0⟩ := box3 g0; obtain ⟨rc0, rc1, rc2, rf0, rf1, rf2, hlt1⟩ := box3 g1))
      obtain ⟨q0, q1, q2, _⟩ := box3 (set3_blk g1 (.int .i64 0) (.int .i64 0) (.slice none 0 0))
      refine bodyPost_ret (v := .tuple #[logV 0 0 none 0 0, .int .i64 1]) (by simp [results, Try.results37, go_sem, q0, q1, q2]) rfl ?_
      exact RetLog.none 1 rfl (set3_below hw0 (by omega) _ _ _)
    have HWit : Hid (∀ W, Below w.heap.size w W → Calls Try.prog 33 #[logV b t a es.length cap] W fun e w' => e = .returned (.tuple #[.int .i64 (b + es.length), .int .i64 (endT es t)]) ∧ Below W.heap.size W w') := fun W h => by
      have := refLast_any b t a cap es W (hl.below h)
      unfold lastF at this
      rwa [fairL_yes hmay] at this
    generalize endT es t = et at HWit
    by_cases h1 : i < b
    · rw [show packF b t es i = (0, 0, [], 9) by unfold packF; rw [if_pos ⟨hmay, by omega⟩, if_pos h1]]
      clear hl
      go_enter Try.func37, Try.ntmps37
      go_wp2_with (first
        | (go_at_call 38; refine (HMay.out _ (below2 _ _ _)).mono ?_; rintro e w1 ⟨rfl, hb1⟩; have hw0 := alloc2_below hb1; have g0 := blk_keep hb1 (alloc2_fst _ _ _); have g1 := blk_keep hb1 (alloc2_snd _ _ _); obtain ⟨hc0, hc1, hc2, hf0, hf1, hf2, hlt0⟩ := box3 g0; obtain ⟨rc0, rc1, rc2, rf0, rf1, rf2, hlt1⟩ := box3 g1))
      obtain ⟨q0, q1, q2, _⟩ := box3 (set3_blk g1 (.int .i64 0) (.int .i64 0) (.slice none 0 0))
      refine bodyPost_ret (v := .tuple #[logV 0 0 none 0 0, .int .i64 9]) (by simp [results, Try.results37, go_sem, q0, q1, q2]) rfl ?_
      exact RetLog.none 9 rfl (set3_below hw0 (by omega) _ _ _)
    by_cases h2 : b + (es.length : Int) < i
    · rw [show packF b t es i = (0, 0, [], 10) by unfold packF; rw [if_pos ⟨hmay, by omega⟩, if_neg h1, if_pos h2]]
      clear hl
      go_enter Try.func37, Try.ntmps37
      go_wp2_with (first
        | (go_at_call 38; refine (HMay.out _ (below2 _ _ _)).mono ?_; rintro e w1 ⟨rfl, hb1⟩; have hw0 := alloc2_below hb1; have g0 := blk_keep hb1 (alloc2_fst _ _ _); have g1 := blk_keep hb1 (alloc2_snd _ _ _); obtain ⟨hc0, hc1, hc2, hf0, hf1, hf2, hlt0⟩ := box3 g0; obtain ⟨rc0, rc1, rc2, rf0, rf1, rf2, hlt1⟩ := box3 g1)
        | (go_at_call 33; refine (HWit.out _ hw0).mono ?_; rintro e w3 ⟨rfl, hb3⟩; replace hw0 := hw0.trans (hb3.mono hw0.size); replace g0 := blk_keep hb3 g0; replace g1 := blk_keep hb3 g1; obtain ⟨hc0, hc1, hc2, hf0, hf1, hf2, hlt0⟩ := box3 g0; obtain ⟨rc0, rc1, rc2, rf0, rf1, rf2, hlt1⟩ := box3 g1))
      obtain ⟨q0, q1, q2, _⟩ := box3 (set3_blk g1 (.int .i64 0) (.int .i64 0) (.slice none 0 0))
      refine bodyPost_ret (v := .tuple #[logV 0 0 none 0 0, .int .i64 10]) (by simp [results, Try.results37, go_sem, q0, q1, q2]) rfl ?_
      exact RetLog.none 10 rfl (set3_below hw0 (by omega) _ _ _)
    have HTer : Hid (∀ W, Below w.heap.size w W → Calls Try.prog 34 #[logV b t a es.length cap, .int .i64 i] W fun e w' => e = .returned (.tuple #[.int .i64 (termL b t es i).1, .bool (termL b t es i).2]) ∧ Below W.heap.size W w') := fun W h => by
      have := refTerm_any b t a cap es i hwi W (hl.below h)
      unfold termF at this
      rwa [fairL_yes hmay] at this
    obtain ⟨k, hk⟩ : ∃ k : Nat, i - b = (k : Int) := ⟨(i - b).toNat, by omega⟩
    rw [show packF b t es i = (i, (termL b t es i).1, es.drop k, 0) by unfold packF; rw [if_pos ⟨hmay, by omega⟩, if_neg h1, if_neg h2, show (i - b).toNat = k by omega]]
    have h64 := (mayL_true hmay).2.2.2.2.2.1
    have hb0 := (mayL_true hmay).1
    have hkl : k ≤ es.length := by omega
    have hs1 : ∀ W, (Instr.slice 24 (.slice a es.length cap) (some (.int .i64 (k : Int))) none none).run Try.prog W = .ok (.slice (cutS a cap k 7) (es.length - k) (cap - k)) W := fun W => slice_fromS (P := Try.prog) elemE a es.length cap k hkl W
    have hrow := hl.row.cutS cap k 7 (by rw [ensV_length]; exact Nat.mul_le_mul_right _ hl.cap)
    rw [ensV_drop] at hrow
    have hnone := cutS_none (a := a) (cap := cap) (l := k) (size := 7) (n := es.length) hl.none_
    have hcap1 : es.length - k ≤ cap - k := Nat.sub_le_sub_right hl.cap k
    have hlen : (es.drop k).length = es.length - k := List.length_drop
    have HRow := Lib.hid hrow
    have HNone := Lib.hid hnone
    have HEl : Hid ((ensV (es.drop k)).length = (es.length - k) * 7) := by rw [Hid, ensV_length, hlen]
    generalize termL b t es i = x at HTer ⊢
    obtain ⟨x, y⟩ := x
    simp only at HTer ⊢
    have HK := Lib.hid hlen
    clear hrow hnone hcap1 hlen hl
    have hr64 : es.length - k ≤ 64 := by omega
    generalize es.length - k = r at hs1 HK HEl HNone hr64
    generalize cap - k = c1 at hs1
    generalize cutS a cap k 7 = A1 at hs1 HRow HNone
    go_enter Try.func37, Try.ntmps37
    go_wp2_with (first
      | (go_at_call 38; refine (HMay.out _ (below2 _ _ _)).mono ?_; rintro e w1 ⟨rfl, hb1⟩; have hw0 := alloc2_below hb1; have g0 := blk_keep hb1 (alloc2_fst _ _ _); have g1 := blk_keep hb1 (alloc2_snd _ _ _); obtain ⟨hc0, hc1, hc2, hf0, hf1, hf2, hlt0⟩ := box3 g0; obtain ⟨rc0, rc1, rc2, rf0, rf1, rf2, hlt1⟩ := box3 g1)
      | (go_at_call 33; refine (HWit.out _ hw0).mono ?_; rintro e w3 ⟨rfl, hb3⟩; replace hw0 := hw0.trans (hb3.mono hw0.size); replace g0 := blk_keep hb3 g0; replace g1 := blk_keep hb3 g1; obtain ⟨hc0, hc1, hc2, hf0, hf1, hf2, hlt0⟩ := box3 g0; obtain ⟨rc0, rc1, rc2, rf0, rf1, rf2, hlt1⟩ := box3 g1)
      | (go_at_call 34; refine (HTer.out _ hw0).mono ?_; rintro e w4 ⟨rfl, hb4⟩; replace hw0 := hw0.trans (hb4.mono hw0.size); replace g0 := blk_keep hb4 g0; replace g1 := blk_keep hb4 g1; obtain ⟨hc0, hc1, hc2, hf0, hf1, hf2, hlt0⟩ := box3 g0; obtain ⟨rc0, rc1, rc2, rf0, rf1, rf2, hlt1⟩ := box3 g1)
      | (at_builtin; refine wpList_append_row rfl (.const (.slice none 0 0)) (.tmp 48) rfl elemE (w.heap.size + 2) (.slice none 0 0) 0 [] (by rfl) (World.ownsRow_nil _ _ _ _) A1 r c1 (ensV (es.drop k)) (by rfl) HEl.out (HRow.out.below hw0) (ensV_one _) (by unfold maxLen; omega) (by omega) (by omega) HNone.out ?_; intro a2 c2 w5 hown hg5 hat5; simp only [Nat.zero_add, List.nil_append] at hown; have hw5 := Below.appended hw0 (World.ownsRow_nil w4 (w.heap.size + 2) 55 7) hg5 hw0.size (by omega); replace g0 := blk_grown hg5 g0 (by simp [Value.ownBlock]); replace g1 := blk_grown hg5 g1 (by simp [Value.ownBlock]); obtain ⟨hc0, hc1, hc2, hf0, hf1, hf2, hlt0⟩ := box3 g0; obtain ⟨rc0, rc1, rc2, rf0, rf1, rf2, hlt1⟩ := box3 g1))
    obtain ⟨q0, q1, q2, _⟩ := box3 (set3_blk g1 (.int .i64 i) (.int .i64 x) (.slice a2 r c2))
    refine bodyPost_ret (v := .tuple #[logV i x a2 r c2, .int .i64 0]) (by simp [results, Try.results37, go_sem, q0, q1, q2]) rfl ?_
    exact RetLog.ok HK.out (own_set3 (F := w.heap.size + 1) hown (by omega) _ _ _) (by omega) (set3_below hw5 (by omega) _ _ _)
end Go.Proofs.Ytifbcdjabdfeeaa
