/-
  Layer 4: what is added.
-/
import Derived.Test.YthjdbmfobmnnlaaGreatBd
namespace Go.Proofs.YthjdbmfobmnnlaaGreat
open Go.RowKit
set_option linter.unusedVariables false
/-- What is added: the log's base, its term, its entries, and the error. -/
def addF (b t : Int) (es : List En) (i T : Int) (more : List En) : Int × Int × List En × Int :=
  if mayL b t es = true ∧ rising more T = true then
    if i < b then (0, 0, [], 9) else if b + es.length < i then (0, 0, [], 10) else if (termL b t es i).1 = T then
      (if 64 < (mergeL es (i - b).toNat more).length then (0, 0, [], 7) else (b, t, mergeL es (i - b).toNat more, 0))
    else (0, 0, [], 8)
  else (0, 0, [], 1)
/-- A log of one's own and an error. -/
def RetLogO (r : Int × Int × List En × Int) (w : World) (en : Ending) (w' : World) : Prop :=
  ∃ a cap, en = .returned (.tuple #[logV r.1 r.2.1 a r.2.2.1.length cap, .int .i64 r.2.2.2]) ∧ w'.ownsRow w.heap.size 82 7 (.slice a r.2.2.1.length cap) r.2.2.1.length (ensV r.2.2.1) ∧ Below w.heap.size w w'
theorem RetLogO.none (err : Int) {w w' : World} {en : Ending} (h : en = .returned (.tuple #[logV 0 0 none 0 0, .int .i64 err])) (hb : Below w.heap.size w w') : RetLogO (0, 0, [], err) w en w' := ⟨Option.none, 0, h, World.ownsRow_nil _ _ _ _, hb⟩
/-- What holds each time that entries.Add comes to its label: so many of the new entries are there already. -/
def AddInv (b t : Int) (a : Option Addr) (cap : Nat) (es : List En) (k0 : Nat) (T : Int) (more : List En) (w : World) (a' : Act) (w' : World) : Prop :=
  ∃ (j r : Nat) (Am : Option Addr) (cj : Nat) (a2 : Option Addr) (c2 : Nat) (u : Nat → Value), j + r = more.length ∧ k0 + j ≤ es.length ∧ (∀ i, (hi : i < j) → (es.getD (k0 + i) default).1 = (more.getD i default).1) ∧ RowAt w' Am (ensV (more.drop j)) ∧ (Am = none → r = 0) ∧ r ≤ cj ∧
    w'.heap[w.heap.size]? = some (.cells #[.int .i64 b, .int .i64 t, .slice a2 es.length c2] 37) ∧ w'.heap[w.heap.size + 1]? = some (.cells #[.int .i64 0, .int .i64 0, .slice none 0 0] 37) ∧ w'.ownsRow (w.heap.size + 2) 82 7 (.slice a2 es.length c2) es.length (ensV es) ∧ Below w.heap.size w w' ∧
    a' = { tmps := #[logV b t a es.length cap, .int .i64 (b + (k0 : Int)), .int .i64 T, .slice Am r cj, .pointer (some ⟨w.heap.size, 0, none⟩), u 5, u 6, u 7, .pointer (some ⟨w.heap.size + 1, 0, none⟩), .int .i64 0, u 10, u 11, u 12, .int .i64 ((k0 + j : Nat) : Int), u 14, u 15, u 16, u 17, u 18, u 19, u 20, u 21, u 22, u 23, u 24, u 25, u 26, u 27, u 28, u 29, u 30, u 31, u 32, u 33, u 34, u 35, u 36, u 37, u 38, u 39, u 40, u 41, u 42, u 43, u 44, u 45, u 46, u 47, u 48, u 49, u 50, u 51, u 52, u 53, u 54, u 55, u 56, u 57, u 58, u 59, u 60, u 61, u 62, u 63, u 64, u 65, u 66, u 67, u 68, u 69, u 70, u 71, u 72, u 73, u 74, u 75, u 76, u 77, u 78, u 79, u 80, u 81, u 82, u 83, u 84, u 85, u 86, u 87, u 88, u 89, u 90, u 91], defers := [] }
theorem AddInv.mk {b t : Int} {a : Option Addr} {cap : Nat} {es : List En} {k0 : Nat} {T : Int} {more : List En} {w : World} {a' : Act} {w' : World} {j r : Nat} {Am : Option Addr} {cj : Nat} {a2 : Option Addr} {c2 : Nat}
    (h1 : j + r = more.length) (h2 : k0 + j ≤ es.length) (h3 : ∀ i, (hi : i < j) → (es.getD (k0 + i) default).1 = (more.getD i default).1) (h4 : RowAt w' Am (ensV (more.drop j))) (h5 : Am = none → r = 0) (h6 : r ≤ cj)
    (h7 : w'.heap[w.heap.size]? = some (.cells #[.int .i64 b, .int .i64 t, .slice a2 es.length c2] 37)) (h8 : w'.heap[w.heap.size + 1]? = some (.cells #[.int .i64 0, .int .i64 0, .slice none 0 0] 37)) (h9 : w'.ownsRow (w.heap.size + 2) 82 7 (.slice a2 es.length c2) es.length (ensV es)) (h10 : Below w.heap.size w w')
    (h11 : a' = { tmps := #[logV b t a es.length cap, .int .i64 (b + (k0 : Int)), .int .i64 T, .slice Am r cj, .pointer (some ⟨w.heap.size, 0, none⟩), a'.tmps.getD 5 undef, a'.tmps.getD 6 undef, a'.tmps.getD 7 undef, .pointer (some ⟨w.heap.size + 1, 0, none⟩), .int .i64 0, a'.tmps.getD 10 undef, a'.tmps.getD 11 undef, a'.tmps.getD 12 undef, .int .i64 ((k0 + j : Nat) : Int), a'.tmps.getD 14 undef, a'.tmps.getD 15 undef, a'.tmps.getD 16 undef, a'.tmps.getD 17 undef, a'.tmps.getD 18 undef, a'.tmps.getD 19 undef, a'.tmps.getD 20 undef, a'.tmps.getD 21 undef, a'.tmps.getD 22 undef, a'.tmps.getD 23 undef, a'.tmps.getD 24 undef, a'.tmps.getD 25 undef, a'.tmps.getD 26 undef, a'.tmps.getD 27 undef, a'.tmps.getD 28 undef, a'.tmps.getD 29 undef, a'.tmps.getD 30 undef, a'.tmps.getD 31 undef, a'.tmps.getD 32 undef, a'.tmps.getD 33 undef, a'.tmps.getD 34 undef, a'.tmps.getD 35 undef, a'.tmps.getD 36 undef, a'.tmps.getD 37 undef, a'.tmps.getD 38 undef, a'.tmps.getD 39 undef, a'.tmps.getD 40 undef, a'.tmps.getD 41 undef, a'.tmps.getD 42 undef, a'.tmps.getD 43 undef, a'.tmps.getD 44 undef, a'.tmps.getD 45 undef, a'.tmps.getD 46 undef, a'.tmps.getD 47 undef, a'.tmps.getD 48 undef, a'.tmps.getD 49 undef, a'.tmps.getD 50 undef, a'.tmps.getD 51 undef, a'.tmps.getD 52 undef, a'.tmps.getD 53 undef, a'.tmps.getD 54 undef, a'.tmps.getD 55 undef, a'.tmps.getD 56 undef, a'.tmps.getD 57 undef, a'.tmps.getD 58 undef, a'.tmps.getD 59 undef, a'.tmps.getD 60 undef, a'.tmps.getD 61 undef, a'.tmps.getD 62 undef, a'.tmps.getD 63 undef, a'.tmps.getD 64 undef, a'.tmps.getD 65 undef, a'.tmps.getD 66 undef, a'.tmps.getD 67 undef, a'.tmps.getD 68 undef, a'.tmps.getD 69 undef, a'.tmps.getD 70 undef, a'.tmps.getD 71 undef, a'.tmps.getD 72 undef, a'.tmps.getD 73 undef, a'.tmps.getD 74 undef, a'.tmps.getD 75 undef, a'.tmps.getD 76 undef, a'.tmps.getD 77 undef, a'.tmps.getD 78 undef, a'.tmps.getD 79 undef, a'.tmps.getD 80 undef, a'.tmps.getD 81 undef, a'.tmps.getD 82 undef, a'.tmps.getD 83 undef, a'.tmps.getD 84 undef, a'.tmps.getD 85 undef, a'.tmps.getD 86 undef, a'.tmps.getD 87 undef, a'.tmps.getD 88 undef, a'.tmps.getD 89 undef, a'.tmps.getD 90 undef, a'.tmps.getD 91 undef], defers := [] }) : AddInv b t a cap es k0 T more w a' w' :=
  ⟨j, r, Am, cj, a2, c2, fun k => a'.tmps.getD k undef, h1, h2, h3, h4, h5, h6, h7, h8, h9, h10, h11⟩
theorem RetLogO.ok {b t : Int} {L : List En} {q c3 base : Nat} {a3 : Option Addr} {w W : World} (hq : L.length = q) (hown : W.ownsRow base 82 7 (.slice a3 q c3) q (ensV L)) (hbase : w.heap.size ≤ base) (hb : Below w.heap.size w W) : RetLogO (b, t, L, 0) w (.returned (.tuple #[logV b t a3 q c3, .int .i64 0])) W := by
  subst hq
  exact ⟨a3, c3, rfl, own_base hown hbase, hb⟩
/-- What lay there ahead of the call stays through a store into a block of the call's own. -/
theorem row_under {w w1 : World} {F k : Nat} {A : Option Addr} {xs : List Value} (h : RowAt w A xs) (hb : Below w.heap.size w w1) (hF : w.heap.size ≤ F) (v : Value) : RowAt (w1.setCell ⟨F, k, none⟩ v) A xs := h.below (hb.setCell (p := ⟨F, k, none⟩) hF v)
theorem row_far {w : World} {F : Nat} {A : Option Addr} {xs : List Value} {v : Value} {k : Nat} (h : RowAt w A xs) (hA : ∀ b o, A = some ⟨b, o, none⟩ → b ≠ F) : RowAt (w.setCell ⟨F, k, none⟩ v) A xs := by
  rcases h with h | ⟨b, off, ha, hlt, hc⟩
  · exact .inl h
  · refine .inr ⟨b, off, ha, by simpa [World.setCell] using hlt, fun i u hi => ?_⟩
    rw [World.cell?_setCell_far _ _ _ _ (fun e => hA b off ha e.symm)]
    exact hc i u hi
theorem merge_all {es more : List En} {k0 j : Nat} (hj : j = more.length) (hk : k0 + j ≤ es.length) (hm : ∀ i, (hi : i < j) → (es.getD (k0 + i) default).1 = (more.getD i default).1) : mergeL es k0 more = es := by
  rw [mergeL_skip more j (by omega) hk hm, List.drop_of_length_le (by omega)]
  rfl
theorem merge_cut {es more : List En} {k0 j : Nat} (hj : j < more.length) (hk : k0 + j ≤ es.length) (hm : ∀ i, (hi : i < j) → (es.getD (k0 + i) default).1 = (more.getD i default).1) (hn : ¬ (k0 + j < es.length ∧ (es.getD (k0 + j) default).1 = (more[j]).1)) : mergeL es k0 more = es.take (k0 + j) ++ more.drop j := by
  rw [mergeL_skip more j (by omega) hk hm, List.drop_eq_getElem_cons hj, mergeL_new hn]
theorem getD_at {es : List En} {k : Nat} (h : k < es.length) : es.getD k default = es[k] := by
  rw [List.getD_eq_getElem?_getD, List.getElem?_eq_getElem h]
  rfl
theorem more_step {es more : List En} {k0 j : Nat} (hj : j < more.length) (hm : ∀ i, (hi : i < j) → (es.getD (k0 + i) default).1 = (more.getD i default).1) (he : (es.getD (k0 + j) default).1 = (more[j]).1) : ∀ i, (hi : i < j + 1) → (es.getD (k0 + i) default).1 = (more.getD i default).1 := fun i hi => by
  rcases Nat.lt_or_ge i j with h | h
  · exact hm i h
  · obtain rfl : i = j := by omega
    rw [he, getD_at hj]
set_option maxRecDepth 100000 in
set_option maxHeartbeats 3200000 in
theorem addO_any (b t : Int) (a : Option Addr) (cap : Nat) (es : List En) (i T : Int) (am : Option Addr) (cm : Nat) (more : List En) (w : World) (hl : LogIn w a cap es) (hm : LogIn w am cm more) (hs : more.length ≤ 1000000) :
    Calls Tryz.prog 120 #[logV b t a es.length cap, .int .i64 i, .int .i64 T, .slice am more.length cm] w (RetLogO (addF b t es i T more) w) := by
  have HMay : Hid (∀ W, Below w.heap.size w W → Calls Tryz.prog 79 #[logV b t a es.length cap] W fun e w' => e = .returned (.bool (mayL b t es)) ∧ Below W.heap.size W w') := fun W h => may_any b t a cap es W (hl.below h)
  have HRis : Hid (∀ W, Below w.heap.size w W → Calls Tryz.prog 126 #[.slice am more.length cm, .int .i64 T] W fun e w' => e = .returned (.bool (rising more T)) ∧ Below W.heap.size W w') := fun W h => rising_any am cm more T W (hm.row.below h) hm.max
  cases hmay : mayL b t es with
  | false =>
    rw [show addF b t es i T more = (0, 0, [], 1) by unfold addF; rw [if_neg (by simp [hmay])]]
    rw [hmay] at HMay
    clear hl hm HRis
    go_enter Tryz.func120, Tryz.ntmps120
    go_wp2
    refine scope_fwd 0 rfl ?_
    go_wp2_with (first
      | (go_at_call 79; refine (HMay.out _ (below2 _ _ _)).mono ?_; rintro e w1 ⟨rfl, hb1⟩; have hw0 := alloc2_below hb1; have g0 := blk_keep hb1 (alloc2_fst _ _ _); have g1 := blk_keep hb1 (alloc2_snd _ _ _); obtain ⟨hc0, hc1, hc2, hf0, hf1, hf2, hlt0⟩ := box3 g0; obtain ⟨rc0, rc1, rc2, rf0, rf1, rf2, hlt1⟩ := box3 g1))
    obtain ⟨k0, k1, k2, _⟩ := box3 (set3_blk g1 (.int .i64 0) (.int .i64 0) (.slice none 0 0))
    simp only [Exit.jump]
    refine bodyPost_ret (v := .tuple #[logV 0 0 none 0 0, .int .i64 1]) (by simp [results, Tryz.results120, go_sem, k0, k1, k2]) rfl ?_
    exact RetLogO.none 1 rfl (set3_below hw0 (by omega) _ _ _)
  | true =>
    rw [hmay] at HMay
    cases hris : rising more T with
    | false =>
      rw [show addF b t es i T more = (0, 0, [], 1) by unfold addF; rw [if_neg (by simp [hris])]]
      rw [hris] at HRis
      clear hl hm
      go_enter Tryz.func120, Tryz.ntmps120
      go_wp2
      refine scope_fwd 0 rfl ?_
      go_wp2_with (first
        | (go_at_call 79; refine (HMay.out _ (below2 _ _ _)).mono ?_; rintro e w1 ⟨rfl, hb1⟩; have hw0 := alloc2_below hb1; have g0 := blk_keep hb1 (alloc2_fst _ _ _); have g1 := blk_keep hb1 (alloc2_snd _ _ _); obtain ⟨hc0, hc1, hc2, hf0, hf1, hf2, hlt0⟩ := box3 g0; obtain ⟨rc0, rc1, rc2, rf0, rf1, rf2, hlt1⟩ := box3 g1)
        | (go_at_call 126; refine (HRis.out _ hw0).mono ?_; rintro e w2 ⟨rfl, hb2⟩; replace hw0 := hw0.trans (hb2.mono hw0.size); replace g0 := blk_keep hb2 g0; replace g1 := blk_keep hb2 g1; obtain ⟨hc0, hc1, hc2, hf0, hf1, hf2, hlt0⟩ := box3 g0; obtain ⟨rc0, rc1, rc2, rf0, rf1, rf2, hlt1⟩ := box3 g1))
      obtain ⟨k0, k1, k2, _⟩ := box3 (set3_blk g1 (.int .i64 0) (.int .i64 0) (.slice none 0 0))
      simp only [Exit.jump]
      refine bodyPost_ret (v := .tuple #[logV 0 0 none 0 0, .int .i64 1]) (by simp [results, Tryz.results120, go_sem, k0, k1, k2]) rfl ?_
      exact RetLogO.none 1 rfl (set3_below hw0 (by omega) _ _ _)
    | true =>
      rw [hris] at HRis
      have HWit : Hid (∀ W, Below w.heap.size w W → Calls Tryz.prog 177 #[logV b t a es.length cap, .int .i64 i] W fun e w' => e = .returned (.int .i64 (if i < b then 9 else if b + es.length < i then 10 else 0)) ∧ Below W.heap.size W w') := fun W h => within_any b t a cap es i W (hl.below h) hmay
      by_cases h1 : i < b
      · rw [show addF b t es i T more = (0, 0, [], 9) by unfold addF; rw [if_pos ⟨hmay, hris⟩, if_pos h1]]
        rw [if_pos h1] at HWit
        clear hl hm h1
        go_enter Tryz.func120, Tryz.ntmps120
        go_wp2
        refine scope_fwd 0 rfl ?_
        go_wp2_with (first
          | (go_at_call 79; refine (HMay.out _ (below2 _ _ _)).mono ?_; rintro e w1 ⟨rfl, hb1⟩; have hw0 := alloc2_below hb1; have g0 := blk_keep hb1 (alloc2_fst _ _ _); have g1 := blk_keep hb1 (alloc2_snd _ _ _); obtain ⟨hc0, hc1, hc2, hf0, hf1, hf2, hlt0⟩ := box3 g0; obtain ⟨rc0, rc1, rc2, rf0, rf1, rf2, hlt1⟩ := box3 g1)
          | (go_at_call 126; refine (HRis.out _ hw0).mono ?_; rintro e w2 ⟨rfl, hb2⟩; replace hw0 := hw0.trans (hb2.mono hw0.size); replace g0 := blk_keep hb2 g0; replace g1 := blk_keep hb2 g1; obtain ⟨hc0, hc1, hc2, hf0, hf1, hf2, hlt0⟩ := box3 g0; obtain ⟨rc0, rc1, rc2, rf0, rf1, rf2, hlt1⟩ := box3 g1)
          | (go_at_call 177; refine (HWit.out _ hw0).mono ?_; rintro e w3 ⟨rfl, hb3⟩; replace hw0 := hw0.trans (hb3.mono hw0.size); replace g0 := blk_keep hb3 g0; replace g1 := blk_keep hb3 g1; obtain ⟨hc0, hc1, hc2, hf0, hf1, hf2, hlt0⟩ := box3 g0; obtain ⟨rc0, rc1, rc2, rf0, rf1, rf2, hlt1⟩ := box3 g1))
        obtain ⟨k0, k1, k2, _⟩ := box3 (set3_blk g1 (.int .i64 0) (.int .i64 0) (.slice none 0 0))
        simp only [Exit.jump]
        refine bodyPost_ret (v := .tuple #[logV 0 0 none 0 0, .int .i64 9]) (by simp [results, Tryz.results120, go_sem, k0, k1, k2]) rfl ?_
        exact RetLogO.none 9 rfl (set3_below hw0 (by omega) _ _ _)
      rw [if_neg h1] at HWit
      by_cases h2 : b + (es.length : Int) < i
      · rw [show addF b t es i T more = (0, 0, [], 10) by unfold addF; rw [if_pos ⟨hmay, hris⟩, if_neg h1, if_pos h2]]
        rw [if_pos h2] at HWit
        clear hl hm h1 h2
        go_enter Tryz.func120, Tryz.ntmps120
        go_wp2
        refine scope_fwd 0 rfl ?_
        go_wp2_with (first
          | (go_at_call 79; refine (HMay.out _ (below2 _ _ _)).mono ?_; rintro e w1 ⟨rfl, hb1⟩; have hw0 := alloc2_below hb1; have g0 := blk_keep hb1 (alloc2_fst _ _ _); have g1 := blk_keep hb1 (alloc2_snd _ _ _); obtain ⟨hc0, hc1, hc2, hf0, hf1, hf2, hlt0⟩ := box3 g0; obtain ⟨rc0, rc1, rc2, rf0, rf1, rf2, hlt1⟩ := box3 g1)
          | (go_at_call 126; refine (HRis.out _ hw0).mono ?_; rintro e w2 ⟨rfl, hb2⟩; replace hw0 := hw0.trans (hb2.mono hw0.size); replace g0 := blk_keep hb2 g0; replace g1 := blk_keep hb2 g1; obtain ⟨hc0, hc1, hc2, hf0, hf1, hf2, hlt0⟩ := box3 g0; obtain ⟨rc0, rc1, rc2, rf0, rf1, rf2, hlt1⟩ := box3 g1)
          | (go_at_call 177; refine (HWit.out _ hw0).mono ?_; rintro e w3 ⟨rfl, hb3⟩; replace hw0 := hw0.trans (hb3.mono hw0.size); replace g0 := blk_keep hb3 g0; replace g1 := blk_keep hb3 g1; obtain ⟨hc0, hc1, hc2, hf0, hf1, hf2, hlt0⟩ := box3 g0; obtain ⟨rc0, rc1, rc2, rf0, rf1, rf2, hlt1⟩ := box3 g1))
        obtain ⟨k0, k1, k2, _⟩ := box3 (set3_blk g1 (.int .i64 0) (.int .i64 0) (.slice none 0 0))
        simp only [Exit.jump]
        refine bodyPost_ret (v := .tuple #[logV 0 0 none 0 0, .int .i64 10]) (by simp [results, Tryz.results120, go_sem, k0, k1, k2]) rfl ?_
        exact RetLogO.none 10 rfl (set3_below hw0 (by omega) _ _ _)
      rw [if_neg h2] at HWit
      have HTer : Hid (∀ W, Below w.heap.size w W → Calls Tryz.prog 36 #[logV b t a es.length cap, .int .i64 i] W fun e w' => e = .returned (.tuple #[.int .i64 (termL b t es i).1, .bool (termL b t es i).2]) ∧ Below W.heap.size W w') := fun W h => by
        have := term_any b t a cap es i W (hl.below h)
        unfold termF at this
        rwa [fairL_yes hmay] at this
      by_cases h3 : (termL b t es i).1 = T
      rotate_left 1
      · rw [show addF b t es i T more = (0, 0, [], 8) by unfold addF; rw [if_pos ⟨hmay, hris⟩, if_neg h1, if_neg h2, if_neg h3]]
        generalize termL b t es i = x at HTer h3
        obtain ⟨x, y⟩ := x
        simp only at HTer h3
        have h4 : (x != T) = true := by simpa using h3
        clear hl hm h1 h2 h3
        go_enter Tryz.func120, Tryz.ntmps120
        go_wp2
        refine scope_fwd 0 rfl ?_
        go_wp2_with (first
          | (go_at_call 79; refine (HMay.out _ (below2 _ _ _)).mono ?_; rintro e w1 ⟨rfl, hb1⟩; have hw0 := alloc2_below hb1; have g0 := blk_keep hb1 (alloc2_fst _ _ _); have g1 := blk_keep hb1 (alloc2_snd _ _ _); obtain ⟨hc0, hc1, hc2, hf0, hf1, hf2, hlt0⟩ := box3 g0; obtain ⟨rc0, rc1, rc2, rf0, rf1, rf2, hlt1⟩ := box3 g1)
          | (go_at_call 126; refine (HRis.out _ hw0).mono ?_; rintro e w2 ⟨rfl, hb2⟩; replace hw0 := hw0.trans (hb2.mono hw0.size); replace g0 := blk_keep hb2 g0; replace g1 := blk_keep hb2 g1; obtain ⟨hc0, hc1, hc2, hf0, hf1, hf2, hlt0⟩ := box3 g0; obtain ⟨rc0, rc1, rc2, rf0, rf1, rf2, hlt1⟩ := box3 g1)
          | (go_at_call 177; refine (HWit.out _ hw0).mono ?_; rintro e w3 ⟨rfl, hb3⟩; replace hw0 := hw0.trans (hb3.mono hw0.size); replace g0 := blk_keep hb3 g0; replace g1 := blk_keep hb3 g1; obtain ⟨hc0, hc1, hc2, hf0, hf1, hf2, hlt0⟩ := box3 g0; obtain ⟨rc0, rc1, rc2, rf0, rf1, rf2, hlt1⟩ := box3 g1)
          | (go_at_call 36; refine (HTer.out _ hw0).mono ?_; rintro e w4 ⟨rfl, hb4⟩; replace hw0 := hw0.trans (hb4.mono hw0.size); replace g0 := blk_keep hb4 g0; replace g1 := blk_keep hb4 g1; obtain ⟨hc0, hc1, hc2, hf0, hf1, hf2, hlt0⟩ := box3 g0; obtain ⟨rc0, rc1, rc2, rf0, rf1, rf2, hlt1⟩ := box3 g1))
        obtain ⟨k0, k1, k2, _⟩ := box3 (set3_blk g1 (.int .i64 0) (.int .i64 0) (.slice none 0 0))
        simp only [Exit.jump]
        refine bodyPost_ret (v := .tuple #[logV 0 0 none 0 0, .int .i64 8]) (by simp [results, Tryz.results120, go_sem, k0, k1, k2]) rfl ?_
        exact RetLogO.none 8 rfl (set3_below hw0 (by omega) _ _ _)
      · have HADD : Hid (addF b t es i T more = if 64 < (mergeL es (i - b).toNat more).length then (0, 0, [], 7) else (b, t, mergeL es (i - b).toNat more, 0)) := by
          unfold addF
          rw [Hid, if_pos ⟨hmay, hris⟩, if_neg h1, if_neg h2, if_pos h3]
        have h64 := (mayL_true hmay).2.2.2.2.2.1
        have hb40 := (mayL_true hmay).2.1
        have hb0 := (mayL_true hmay).1
        have HClo : Hid (∀ W, Below w.heap.size w W → Calls Tryz.prog 80 #[.slice a es.length cap] W (RetRow 82 7 es.length (ensV es) W)) := fun W h => clone_any a cap es W (hl.below h) (by omega)
        generalize termL b t es i = x at HTer h3
        obtain ⟨x, y⟩ := x
        simp only at HTer h3
        subst h3
        have HMRow := Lib.hid hm
        clear hl hm
        obtain ⟨k0, rfl⟩ : ∃ k0 : Nat, i = b + (k0 : Int) := ⟨(i - b).toNat, by omega⟩
        have hk0 : k0 ≤ es.length := by omega
        rw [show (b + (k0 : Int) - b).toNat = k0 by omega] at HADD
        have HZ := Lib.hid (show k0 ≤ es.length from hk0)
        go_enter Tryz.func120, Tryz.ntmps120
        go_wp2
        refine scope_loop 0 (AddInv b t a cap es k0 x more w) (fun a' _ => match a'.tmps.getD 3 undef with | .slice _ n _ => n | _ => 0) rfl ?_ ?_
        · rintro a' wr ⟨j, r, Am, cj, a2, c2, u, hjr, hkj, hmt, hrow, hnone, hrc, g0, g1, hown, hw0, rfl⟩
          have HMT := Lib.hid hmt
          clear hmt
          obtain ⟨hc0, hc1, hc2, hf0, hf1, hf2, hlt0⟩ := box3 g0
          obtain ⟨rc0, rc1, rc2, rf0, rf1, rf2, hlt1⟩ := box3 g1
          have h64' : (es.length : Int) ≤ 64 := by omega
          by_cases hr0 : r = 0
          · subst hr0
            have hM := Lib.hid (merge_all (show j = more.length by omega) hkj HMT.out)
            rw [hM.out, if_neg (by omega)] at HADD
            clear hrow hnone hM HClo HTer HWit HRis HMay
            go_wp2
            go_quiet (fail)
            go_wp2
            simp only [Exit.jump]
            obtain ⟨q0, q1, q2, _⟩ := box3 (set3_blk (blk_many g1 nq) (.int .i64 b) (.int .i64 t) (.slice a2 es.length c2))
            refine bodyPost_ret (v := .tuple #[logV b t a2 es.length c2, .int .i64 0]) (by simp [results, Tryz.results120, go_sem, q0, q1, q2]) rfl ?_
            rw [HADD.out]
            exact RetLogO.ok rfl (own_set3 (F := w.heap.size + 1) (own_many hown nq) (by omega) _ _ _) (by omega) (set3_below (Below.many hw0 nq) (by omega) _ _ _)
          · have hj : j < more.length := by omega
            have hbig : w.heap.size + 2 ≤ wr.heap.size := by omega
            obtain ⟨mb, moff, rfl, hmlt, m0, mx⟩ := entry_cells hrow (k := 0) (by rw [List.length_drop]; omega)
            clear mx
            rw [show (more.drop j)[0]'(by rw [List.length_drop]; omega) = more[j] by simp] at m0
            rw [Nat.zero_mul, Nat.add_zero] at m0
            have hd0 : (0 : Int) < (r : Int) := by omega
            have hd0' : 0 < r := by omega
            clear HClo HTer HWit HRis HMay
            by_cases hsame : k0 + j < es.length ∧ (es.getD (k0 + j) default).1 = (more[j]).1
            · have HST := Lib.hid (more_step hj HMT.out hsame.2)
              obtain ⟨g, off, rfl, hglt, e0, ex⟩ := entry_cells (RowAt.of_own hown) hsame.1
              clear ex
              have hee := hsame.2
              rw [getD_at hsame.1] at hee
              rw [hee] at e0
              have hpl := hsame.1
              generalize (more[j]'hj).1 = X at m0 e0
              have HP1 : Hid (wrap64 (((k0 + j : Nat) : Int) + 1) = ((k0 + (j + 1) : Nat) : Int)) := by unfold wrap64; rw [Hid]; omega
              have HD2 := Lib.hid (show more.drop j ≠ [] from fun h => by have := congrArg List.length h; rw [List.length_drop] at this; simp at this; omega)
              have hsl : ∀ W, (Instr.slice 34 (.slice (some ⟨mb, moff, none⟩) r cj) (some (.int .i64 1)) none none).run Tryz.prog W = .ok (.slice (cutS (some ⟨mb, moff, none⟩) cj 1 7) (r - 1) (cj - 1)) W := fun W => slice_fromS (P := Tryz.prog) elemE (some ⟨mb, moff, none⟩) r cj 1 (by omega) W
              have HR1 := Lib.hid (hrow.cutS cj 1 7 (by rw [ensV_length, List.length_drop]; omega))
              have HN1 := Lib.hid (cutS_none (a := some ⟨mb, moff, none⟩) (cap := cj) (l := 1) (size := 7) (n := r) (fun h => by cases h))
              rw [show (ensV (more.drop j)).drop (1 * 7) = ensV (more.drop (j + 1)) by rw [ensV_drop, List.drop_drop]] at HR1
              generalize cutS (some ⟨mb, moff, none⟩) cj 1 7 = A1 at hsl HR1 HN1
              clear hsame hee
              generalize hp : k0 + j = p at e0 hpl HP1 hkj
              have hpi : (p : Int) < (es.length : Int) := by omega
              have hp0 : (0 : Int) ≤ (p : Int) := by omega
              go_wp2
              go_quiet (fail)
              go_wp2
              rw [show (p : Int) + 1 = ((k0 + (j + 1) : Nat) : Int) by omega]
              refine wp_goto (And.intro rfl (And.intro (AddInv.mk (j := j + 1) (r := r - 1) (Am := A1) (cj := cj - 1) (a2 := some ⟨g, off, none⟩) (c2 := c2) (by omega) (by omega) HST.out (HR1.out.drewN nq) HN1.out (by omega) (blk_many g0 nq) (blk_many g1 nq) (own_many hown nq) (Below.many hw0 nq) rfl) ?_))
              show r - 1 < r
              omega
            · have HLL : Hid ((mergeL es k0 more).length = (k0 + j) + r) := by rw [Hid, merge_cut hj hkj HMT.out hsame, List.length_append, List.length_take, List.length_drop]; omega
              have HMC := Lib.hid (merge_cut hj hkj HMT.out hsame)
              have HL2 : Hid ((es.take (k0 + j) ++ more.drop j).length = (k0 + j) + r) := by rw [Hid, List.length_append, List.length_take, List.length_drop]; omega
              have HML : Hid ((ensV (more.drop j)).length = r * 7) := by rw [Hid, ensV_length, List.length_drop, show more.length - j = r by omega]
              have hns := hsame
              clear hsame
              generalize hp : k0 + j = p at *
              have hpe : p ≤ es.length := by omega
              obtain ⟨q, hq⟩ : ∃ q, p + r = q := ⟨_, rfl⟩
              have HQ := Lib.hid hq
              clear hq
              have hs1 := fun W => slice_toS (P := Tryz.prog) elemE a2 es.length c2 p (Nat.le_trans hpe (own_le' hown)) W
              have hp0 : (0 : Int) ≤ (p : Int) := by omega
              by_cases hpl : p < es.length
              · obtain ⟨g, off, rfl, hglt, e0, ex⟩ := entry_cells (RowAt.of_own hown) hpl
                clear ex
                have hne : ((es[p]'hpl).1 == (more[j]'hj).1) = false := by
                  rw [getD_at hpl] at hns
                  simp
                  exact fun h => hns ⟨hpl, h⟩
                generalize (more[j]'hj).1 = X at m0 hne
                generalize (es[p]'hpl).1 = Y at e0 hne
                have hpi : (p : Int) < (es.length : Int) := by omega
                clear hns hpl
                by_cases hbig64 : (64 : Int) < (q : Int)
                · have hbN : 64 < q := by omega
                  rw [if_pos (by rw [HLL.out, HQ.out]; omega)] at HADD
                  go_wp2
                  go_quiet (fail)
                  go_wp2_with (at_builtin; refine wpList_append_row rfl (.tmp 82) (.tmp 83) rfl elemE (w.heap.size + 2) (.slice (some ⟨g, off, none⟩) p c2) p ((ensV es).take (p * 7)) (by rfl) (own_front (own_many hown nq) hpe) (some ⟨mb, moff, none⟩) r cj (ensV (more.drop j)) (by rfl) HML.out (hrow.drewN nq) (ensV_one _) (by unfold maxLen; omega) (by omega) (Nat.le_trans hbig (Nat.le_refl _)) (fun h => by cases h) ?_; intro a3 c3 w3 hown3 hg3 hat3; rw [ensV_take, ← ensV_append, HQ.out] at hown3; rw [HQ.out]; have hne0 : (Value.slice (some ⟨g, off, none⟩) p c2).ownBlock ≠ some w.heap.size := (fun e => by have := ((own_front (own_many hown nq) hpe).lt _ e).1; omega); have hne1 : (Value.slice (some ⟨g, off, none⟩) p c2).ownBlock ≠ some (w.heap.size + 1) := (fun e => by have := ((own_front (own_many hown nq) hpe).lt _ e).1; omega); have G0 := blk_grown hg3 (blk_many g0 nq) hne0; have G1 := blk_grown hg3 (blk_many g1 nq) hne1; have hw3 : Below w.heap.size w w3 := Below.appended (Below.many hw0 nq) (own_front (own_many hown nq) hpe) hg3 hw0.size (by omega); obtain ⟨hc0, hc1, hc2, hf0, hf1, hf2, hlt0⟩ := box3 G0; obtain ⟨rc0, rc1, rc2, rf0, rf1, rf2, hlt1⟩ := box3 G1)
                  have hown4 := ownsRow_setCell_below hown3 (a := ⟨w.heap.size, 2, none⟩) (by show w.heap.size < _; omega) (.slice a3 q c3)
                  have G4 := blk_set (i := 2) G0 (.slice a3 q c3)
                  have G5 := blk_far (i := 2) G1 (G := w.heap.size) (by omega) (.slice a3 q c3)
                  have hw4 := hw3.setCell (p := ⟨w.heap.size, 2, none⟩) (Nat.le_refl _) (.slice a3 q c3)
                  simp only [Exit.jump]
                  obtain ⟨q0, q1, q2, _⟩ := box3 (set3_blk G5 (.int .i64 0) (.int .i64 0) (.slice none 0 0))
                  refine bodyPost_ret (v := .tuple #[logV 0 0 none 0 0, .int .i64 7]) (by simp [results, Tryz.results120, go_sem, q0, q1, q2]) rfl ?_
                  rw [HADD.out]
                  exact RetLogO.none 7 rfl (set3_below hw4 (by omega) _ _ _)
                · have hbN : q ≤ 64 := by omega
                  have hq64 : (q : Int) ≤ 64 := by omega
                  clear hbig64
                  rw [if_neg (by rw [HLL.out, HQ.out]; omega), HMC.out] at HADD
                  go_wp2
                  go_quiet (fail)
                  go_wp2_with (at_builtin; refine wpList_append_row rfl (.tmp 82) (.tmp 83) rfl elemE (w.heap.size + 2) (.slice (some ⟨g, off, none⟩) p c2) p ((ensV es).take (p * 7)) (by rfl) (own_front (own_many hown nq) hpe) (some ⟨mb, moff, none⟩) r cj (ensV (more.drop j)) (by rfl) HML.out (hrow.drewN nq) (ensV_one _) (by unfold maxLen; omega) (by omega) (Nat.le_trans hbig (Nat.le_refl _)) (fun h => by cases h) ?_; intro a3 c3 w3 hown3 hg3 hat3; rw [ensV_take, ← ensV_append, HQ.out] at hown3; rw [HQ.out]; have hne0 : (Value.slice (some ⟨g, off, none⟩) p c2).ownBlock ≠ some w.heap.size := (fun e => by have := ((own_front (own_many hown nq) hpe).lt _ e).1; omega); have hne1 : (Value.slice (some ⟨g, off, none⟩) p c2).ownBlock ≠ some (w.heap.size + 1) := (fun e => by have := ((own_front (own_many hown nq) hpe).lt _ e).1; omega); have G0 := blk_grown hg3 (blk_many g0 nq) hne0; have G1 := blk_grown hg3 (blk_many g1 nq) hne1; have hw3 : Below w.heap.size w w3 := Below.appended (Below.many hw0 nq) (own_front (own_many hown nq) hpe) hg3 hw0.size (by omega); obtain ⟨hc0, hc1, hc2, hf0, hf1, hf2, hlt0⟩ := box3 G0; obtain ⟨rc0, rc1, rc2, rf0, rf1, rf2, hlt1⟩ := box3 G1)
                  have hown4 := ownsRow_setCell_below hown3 (a := ⟨w.heap.size, 2, none⟩) (by show w.heap.size < _; omega) (.slice a3 q c3)
                  have G4 := blk_set (i := 2) G0 (.slice a3 q c3)
                  have G5 := blk_far (i := 2) G1 (G := w.heap.size) (by omega) (.slice a3 q c3)
                  have hw4 := hw3.setCell (p := ⟨w.heap.size, 2, none⟩) (Nat.le_refl _) (.slice a3 q c3)
                  simp only [Exit.jump]
                  obtain ⟨q0, q1, q2, _⟩ := box3 (set3_blk G5 (.int .i64 b) (.int .i64 t) (.slice a3 q c3))
                  refine bodyPost_ret (v := .tuple #[logV b t a3 q c3, .int .i64 0]) (by simp [results, Tryz.results120, go_sem, q0, q1, q2]) rfl ?_
                  rw [HADD.out]
                  have hown5 := own_set3 (F := w.heap.size + 1) hown4 (by omega) (.int .i64 b) (.int .i64 t) (.slice a3 q c3)
                  exact RetLogO.ok (HL2.out.trans HQ.out) hown5 (by omega) (set3_below hw4 (by omega) _ _ _)
              · obtain rfl : p = es.length := by omega
                clear hns hpl
                by_cases hbig64 : (64 : Int) < (q : Int)
                · have hbN : 64 < q := by omega
                  rw [if_pos (by rw [HLL.out, HQ.out]; omega)] at HADD
                  go_wp2
                  go_quiet (fail)
                  go_wp2_with (at_builtin; refine wpList_append_row rfl (.tmp 82) (.tmp 83) rfl elemE (w.heap.size + 2) (.slice a2 es.length c2) es.length ((ensV es).take (es.length * 7)) (by rfl) (own_front (own_many hown nq) hpe) (some ⟨mb, moff, none⟩) r cj (ensV (more.drop j)) (by rfl) HML.out (hrow.drewN nq) (ensV_one _) (by unfold maxLen; omega) (by omega) (Nat.le_trans hbig (Nat.le_refl _)) (fun h => by cases h) ?_; intro a3 c3 w3 hown3 hg3 hat3; rw [ensV_take, ← ensV_append, HQ.out] at hown3; rw [HQ.out]; have hne0 : (Value.slice a2 es.length c2).ownBlock ≠ some w.heap.size := (fun e => by have := ((own_front (own_many hown nq) hpe).lt _ e).1; omega); have hne1 : (Value.slice a2 es.length c2).ownBlock ≠ some (w.heap.size + 1) := (fun e => by have := ((own_front (own_many hown nq) hpe).lt _ e).1; omega); have G0 := blk_grown hg3 (blk_many g0 nq) hne0; have G1 := blk_grown hg3 (blk_many g1 nq) hne1; have hw3 : Below w.heap.size w w3 := Below.appended (Below.many hw0 nq) (own_front (own_many hown nq) hpe) hg3 hw0.size (by omega); obtain ⟨hc0, hc1, hc2, hf0, hf1, hf2, hlt0⟩ := box3 G0; obtain ⟨rc0, rc1, rc2, rf0, rf1, rf2, hlt1⟩ := box3 G1)
                  have hown4 := ownsRow_setCell_below hown3 (a := ⟨w.heap.size, 2, none⟩) (by show w.heap.size < _; omega) (.slice a3 q c3)
                  have G4 := blk_set (i := 2) G0 (.slice a3 q c3)
                  have G5 := blk_far (i := 2) G1 (G := w.heap.size) (by omega) (.slice a3 q c3)
                  have hw4 := hw3.setCell (p := ⟨w.heap.size, 2, none⟩) (Nat.le_refl _) (.slice a3 q c3)
                  simp only [Exit.jump]
                  obtain ⟨q0, q1, q2, _⟩ := box3 (set3_blk G5 (.int .i64 0) (.int .i64 0) (.slice none 0 0))
                  refine bodyPost_ret (v := .tuple #[logV 0 0 none 0 0, .int .i64 7]) (by simp [results, Tryz.results120, go_sem, q0, q1, q2]) rfl ?_
                  rw [HADD.out]
                  exact RetLogO.none 7 rfl (set3_below hw4 (by omega) _ _ _)
                · have hbN : q ≤ 64 := by omega
                  have hq64 : (q : Int) ≤ 64 := by omega
                  clear hbig64
                  rw [if_neg (by rw [HLL.out, HQ.out]; omega), HMC.out] at HADD
                  go_wp2
                  go_quiet (fail)
                  go_wp2_with (at_builtin; refine wpList_append_row rfl (.tmp 82) (.tmp 83) rfl elemE (w.heap.size + 2) (.slice a2 es.length c2) es.length ((ensV es).take (es.length * 7)) (by rfl) (own_front (own_many hown nq) hpe) (some ⟨mb, moff, none⟩) r cj (ensV (more.drop j)) (by rfl) HML.out (hrow.drewN nq) (ensV_one _) (by unfold maxLen; omega) (by omega) (Nat.le_trans hbig (Nat.le_refl _)) (fun h => by cases h) ?_; intro a3 c3 w3 hown3 hg3 hat3; rw [ensV_take, ← ensV_append, HQ.out] at hown3; rw [HQ.out]; have hne0 : (Value.slice a2 es.length c2).ownBlock ≠ some w.heap.size := (fun e => by have := ((own_front (own_many hown nq) hpe).lt _ e).1; omega); have hne1 : (Value.slice a2 es.length c2).ownBlock ≠ some (w.heap.size + 1) := (fun e => by have := ((own_front (own_many hown nq) hpe).lt _ e).1; omega); have G0 := blk_grown hg3 (blk_many g0 nq) hne0; have G1 := blk_grown hg3 (blk_many g1 nq) hne1; have hw3 : Below w.heap.size w w3 := Below.appended (Below.many hw0 nq) (own_front (own_many hown nq) hpe) hg3 hw0.size (by omega); obtain ⟨hc0, hc1, hc2, hf0, hf1, hf2, hlt0⟩ := box3 G0; obtain ⟨rc0, rc1, rc2, rf0, rf1, rf2, hlt1⟩ := box3 G1)
                  have hown4 := ownsRow_setCell_below hown3 (a := ⟨w.heap.size, 2, none⟩) (by show w.heap.size < _; omega) (.slice a3 q c3)
                  have G4 := blk_set (i := 2) G0 (.slice a3 q c3)
                  have G5 := blk_far (i := 2) G1 (G := w.heap.size) (by omega) (.slice a3 q c3)
                  have hw4 := hw3.setCell (p := ⟨w.heap.size, 2, none⟩) (Nat.le_refl _) (.slice a3 q c3)
                  simp only [Exit.jump]
                  obtain ⟨q0, q1, q2, _⟩ := box3 (set3_blk G5 (.int .i64 b) (.int .i64 t) (.slice a3 q c3))
                  refine bodyPost_ret (v := .tuple #[logV b t a3 q c3, .int .i64 0]) (by simp [results, Tryz.results120, go_sem, q0, q1, q2]) rfl ?_
                  rw [HADD.out]
                  have hown5 := own_set3 (F := w.heap.size + 1) hown4 (by omega) (.int .i64 b) (.int .i64 t) (.slice a3 q c3)
                  exact RetLogO.ok (HL2.out.trans HQ.out) hown5 (by omega) (set3_below hw4 (by omega) _ _ _)
        · intro hp
          go_wp2_with (first
            | (go_at_call 79; refine (HMay.out _ (below2 _ _ _)).mono ?_; rintro e w1 ⟨rfl, hb1⟩; have hw0 := alloc2_below hb1; have g0 := blk_keep hb1 (alloc2_fst _ _ _); have g1 := blk_keep hb1 (alloc2_snd _ _ _); obtain ⟨hc0, hc1, hc2, hf0, hf1, hf2, hlt0⟩ := box3 g0; obtain ⟨rc0, rc1, rc2, rf0, rf1, rf2, hlt1⟩ := box3 g1)
            | (go_at_call 126; refine (HRis.out _ hw0).mono ?_; rintro e w2 ⟨rfl, hb2⟩; replace hw0 := hw0.trans (hb2.mono hw0.size); replace g0 := blk_keep hb2 g0; replace g1 := blk_keep hb2 g1; obtain ⟨hc0, hc1, hc2, hf0, hf1, hf2, hlt0⟩ := box3 g0; obtain ⟨rc0, rc1, rc2, rf0, rf1, rf2, hlt1⟩ := box3 g1)
            | (go_at_call 177; refine (HWit.out _ hw0).mono ?_; rintro e w3 ⟨rfl, hb3⟩; replace hw0 := hw0.trans (hb3.mono hw0.size); replace g0 := blk_keep hb3 g0; replace g1 := blk_keep hb3 g1; obtain ⟨hc0, hc1, hc2, hf0, hf1, hf2, hlt0⟩ := box3 g0; obtain ⟨rc0, rc1, rc2, rf0, rf1, rf2, hlt1⟩ := box3 g1)
            | (go_at_call 36; refine (HTer.out _ hw0).mono ?_; rintro e w4 ⟨rfl, hb4⟩; replace hw0 := hw0.trans (hb4.mono hw0.size); replace g0 := blk_keep hb4 g0; replace g1 := blk_keep hb4 g1; obtain ⟨hc0, hc1, hc2, hf0, hf1, hf2, hlt0⟩ := box3 g0; obtain ⟨rc0, rc1, rc2, rf0, rf1, rf2, hlt1⟩ := box3 g1)
            | (go_at_call 80; refine (HClo.out _ hw0).mono ?_; rintro e w5 ⟨a2, c2, rfl, hown, hb5⟩; have hbase := hw0.size; have hlt0s := hlt0; have hlt1s := hlt1; replace hw0 := hw0.trans (hb5.mono hw0.size); replace g0 := blk_keep hb5 g0; replace g1 := blk_keep hb5 g1; obtain ⟨hc0, hc1, hc2, hf0, hf1, hf2, hlt0⟩ := box3 g0; obtain ⟨rc0, rc1, rc2, rf0, rf1, rf2, hlt1⟩ := box3 g1))
          go_step3
          rw [show b + (k0 : Int) - b = ((k0 + 0 : Nat) : Int) by omega]
          refine (by assumption : ∀ (a : Act) (w : World), _ → _) _ _ (hp _ _ ?_)
          have hown' := own_base (base' := w.heap.size + 2) (ownsRow_setCell_below hown (a := ⟨w.heap.size, 2, none⟩) (by show w.heap.size < _; omega) (.slice a2 es.length c2)) (by omega)
          have hrowF : RowAt (w5.setCell ⟨w.heap.size, 2, none⟩ (.slice a2 es.length c2)) am (ensV more) := row_under HMRow.out.row hw0 (Nat.le_refl _) _
          exact AddInv.mk (j := 0) (r := more.length) (by omega) (by omega) (fun i hi => by omega) hrowF HMRow.out.none_ HMRow.out.cap (blk_set (i := 2) g0 _) (blk_far g1 (by omega) _) hown' (hw0.setCell (p := ⟨w.heap.size, 2, none⟩) (Nat.le_refl _) _) rfl
end Go.Proofs.YthjdbmfobmnnlaaGreat
