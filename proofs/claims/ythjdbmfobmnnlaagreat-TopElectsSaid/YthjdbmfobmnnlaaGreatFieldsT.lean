/-
  Layer 2: Unpack.
-/
import Derived.Test.YthjdbmfobmnnlaaGreatFieldsS
namespace Go.Proofs.YthjdbmfobmnnlaaGreat
open Go.RowKit
set_option linter.unusedVariables false
/-- Numbers and bytes, and an error, returned. -/
def RetUn (r : Int × List Int × List UInt8) (w : World) (en : Ending) (w' : World) : Prop :=
  ∃ a1 c1 a2 c2, en = .returned (.tuple #[.agg #[.slice a1 r.2.1.length c1, .slice a2 r.2.2.length c2], .int .i64 r.1]) ∧ w'.ownsRow w.heap.size 3 1 (.slice a1 r.2.1.length c1) r.2.1.length (r.2.1.map intV) ∧ w'.ownsRow w.heap.size 5 1 (.slice a2 r.2.2.length c2) r.2.2.length (r.2.2.map byteV) ∧ Below w.heap.size w w'
theorem RetUn.none (e : Int) {w w' : World} {en : Ending} (h : en = .returned (.tuple #[.agg #[.slice Option.none 0 0, .slice Option.none 0 0], .int .i64 e])) (hb : Below w.heap.size w w') : RetUn (e, [], []) w en w' := ⟨Option.none, 0, Option.none, 0, h, World.ownsRow_nil _ _ _ _, World.ownsRow_nil _ _ _ _, hb⟩
set_option maxRecDepth 100000 in
set_option maxHeartbeats 3200000 in
theorem unpack_any (a : Option Addr) (cap : Nat) (bs : List UInt8) (w : World) (hb : CellsB w a bs) (hcap : bs.length ≤ cap) (hz : a = none → bs.length = 0) (hlm : bs.length ≤ 1000000) :
    Calls Tryz.prog 251 #[.slice a bs.length cap] w (RetUn (unpackP bs) w) := by
  have HC : Hid (∀ W, Below w.heap.size w W → Calls Tryz.prog 319 #[.slice a bs.length cap] W (RetCut (cutP bs) W)) := fun W h => cut_any a cap bs W (hb.below h) hcap hz hlm
  clear hb hz
  have hu : unpackP bs = unpackP bs := rfl
  rw (config := { occs := .pos [2] }) [unpackP] at hu
  rw [hu]
  clear hu
  generalize cutP bs = r at HC
  obtain ⟨re, r1, r2, rn⟩ := r
  simp only
  by_cases he : re = 0
  · subst he
    by_cases hn : rn = bs.length
    · rw [if_neg (fun h => h.2 hn)]
      have hn1 : ((rn : Int) != (bs.length : Int)) = false := by simp [hn]
      have HN := Lib.hid hn
      clear hn
      go_enter Tryz.func251, Tryz.ntmps251
      go_wp2_with (go_at_call 319; refine (HC.out _ (below1 _ _)).mono ?_; rintro en w1 ⟨a1, c1, a2, c2, rfl, own1, own2, hb1⟩; have hw1 := alloc_below hb1; have g0 := blk_keep hb1 (blk_new w _); obtain ⟨hc0, hc1, hf0, hf1, hlt0⟩ := box2 g0; have g1 := blk_new w1 (.cells #[.slice a1 r1.length c1, .slice a2 r2.length c2] 259); obtain ⟨fc0, fc1, ff0, ff1, flt⟩ := box2 g1; have g2 := blk_alloc g0 (.cells #[.slice a1 r1.length c1, .slice a2 r2.length c2] 259))
      obtain ⟨q0, q1, _⟩ := box2 (blk_alloc (set2_blk g0 (.slice a1 r1.length c1) (.slice a2 r2.length c2)) (.cells #[.slice a1 r1.length c1, .slice a2 r2.length c2] 259))
      refine bodyPost_ret (v := .tuple #[.agg #[.slice a1 r1.length c1, .slice a2 r2.length c2], .int .i64 0]) (by simp [results, Tryz.results251, go_sem, q0, q1]) rfl ?_
      have hs1 := hw1.size
      have o1 := own_base (base' := w.heap.size + 1) own1 (by simp)
      have o2 := own_base (base' := w.heap.size + 1) own2 (by simp)
      exact ⟨a1, c1, a2, c2, rfl, own_base (own_below (ownsRow_setCell_below (ownsRow_setCell_below o1 (a := ⟨w.heap.size, 0, none⟩) (by show w.heap.size < _; omega) _) (a := ⟨w.heap.size, 1, none⟩) (by show w.heap.size < _; omega) _) (below1 _ _)) (by omega), own_base (own_below (ownsRow_setCell_below (ownsRow_setCell_below o2 (a := ⟨w.heap.size, 0, none⟩) (by show w.heap.size < _; omega) _) (a := ⟨w.heap.size, 1, none⟩) (by show w.heap.size < _; omega) _) (below1 _ _)) (by omega), (set2_below hw1 (Nat.le_refl _) _ _).alloc (set2_below hw1 (Nat.le_refl _) _ _).size _⟩
    · rw [if_pos ⟨rfl, hn⟩]
      have hn1 : ((rn : Int) != (bs.length : Int)) = true := by simp; omega
      clear hn
      go_enter Tryz.func251, Tryz.ntmps251
      go_wp2_with (go_at_call 319; refine (HC.out _ (below1 _ _)).mono ?_; rintro en w1 ⟨a1, c1, a2, c2, rfl, own1, own2, hb1⟩; have hw1 := alloc_below hb1; have g0 := blk_keep hb1 (blk_new w _); obtain ⟨hc0, hc1, hf0, hf1, hlt0⟩ := box2 g0; have g1 := blk_new w1 (.cells #[.slice a1 r1.length c1, .slice a2 r2.length c2] 259); obtain ⟨fc0, fc1, ff0, ff1, flt⟩ := box2 g1; have g2 := blk_alloc g0 (.cells #[.slice a1 r1.length c1, .slice a2 r2.length c2] 259))
      obtain ⟨q0, q1, _⟩ := box2 (blk_alloc (set2_blk g0 (.slice none 0 0) (.slice none 0 0)) (.cells #[.slice a1 r1.length c1, .slice a2 r2.length c2] 259))
      refine bodyPost_ret (v := .tuple #[.agg #[.slice none 0 0, .slice none 0 0], .int .i64 2]) (by simp [results, Tryz.results251, go_sem, q0, q1]) rfl ?_
      exact RetUn.none 2 rfl ((set2_below hw1 (Nat.le_refl _) _ _).alloc (set2_below hw1 (Nat.le_refl _) _ _).size _)
  · rw [if_neg (fun h => he h.1)]
    have he1 : (re == 0) = false := by simpa using he
    clear he
    go_enter Tryz.func251, Tryz.ntmps251
    go_wp2_with (go_at_call 319; refine (HC.out _ (below1 _ _)).mono ?_; rintro en w1 ⟨a1, c1, a2, c2, rfl, own1, own2, hb1⟩; have hw1 := alloc_below hb1; have g0 := blk_keep hb1 (blk_new w _); obtain ⟨hc0, hc1, hf0, hf1, hlt0⟩ := box2 g0; have g1 := blk_new w1 (.cells #[.slice a1 r1.length c1, .slice a2 r2.length c2] 259); obtain ⟨fc0, fc1, ff0, ff1, flt⟩ := box2 g1; have g2 := blk_alloc g0 (.cells #[.slice a1 r1.length c1, .slice a2 r2.length c2] 259))
    obtain ⟨q0, q1, _⟩ := box2 (blk_alloc (set2_blk g0 (.slice a1 r1.length c1) (.slice a2 r2.length c2)) (.cells #[.slice a1 r1.length c1, .slice a2 r2.length c2] 259))
    refine bodyPost_ret (v := .tuple #[.agg #[.slice a1 r1.length c1, .slice a2 r2.length c2], .int .i64 re]) (by simp [results, Tryz.results251, go_sem, q0, q1]) rfl ?_
    have hs1 := hw1.size
    have o1 := own_base (base' := w.heap.size + 1) own1 (by simp)
    have o2 := own_base (base' := w.heap.size + 1) own2 (by simp)
    exact ⟨a1, c1, a2, c2, rfl, own_base (own_below (ownsRow_setCell_below (ownsRow_setCell_below o1 (a := ⟨w.heap.size, 0, none⟩) (by show w.heap.size < _; omega) _) (a := ⟨w.heap.size, 1, none⟩) (by show w.heap.size < _; omega) _) (below1 _ _)) (by omega), own_base (own_below (ownsRow_setCell_below (ownsRow_setCell_below o2 (a := ⟨w.heap.size, 0, none⟩) (by show w.heap.size < _; omega) _) (a := ⟨w.heap.size, 1, none⟩) (by show w.heap.size < _; omega) _) (below1 _ _)) (by omega), (set2_below hw1 (Nat.le_refl _) _ _).alloc (set2_below hw1 (Nat.le_refl _) _ _).size _⟩
end Go.Proofs.YthjdbmfobmnnlaaGreat
