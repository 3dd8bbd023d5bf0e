/-
  Layer 4's laws: EntriesKeeps.
-/
import Derived.Test.YtifbcdjabdfeeaaEntriesM
import Derived.Test.YtifbcdjabdfeeaaEntriesO
import Derived.Test.YtifbcdjabdfeeaaEntriesP
namespace Go.Proofs.Ytifbcdjabdfeeaa
open Go.RowKit
set_option linter.unusedVariables false
theorem logIn_ownL {w : World} {base cap n : Nat} {A : Option Addr} {es : List En} (h : w.ownsRow base 55 7 (.slice A es.length cap) es.length (ensV es)) : LogIn w A cap es := LogIn.of_own h
/-- A log whose row is new lies in no older block. -/
theorem log_far {w : World} {a : Option Addr} {cap : Nat} {es : List En} {X : Nat} {x y z : Value} (h : LogIn w a cap es) (hf : es.length ≠ 0 → ∀ b o, a = some ⟨b, o, none⟩ → X < b) : LogIn (set3 w X x y z) a cap es := by
  by_cases h0 : es.length = 0
  · obtain rfl := List.eq_nil_of_length_eq_zero h0
    exact ⟨RowAt.nil, h.cap, h.none_, h.max⟩
  · exact logIn_set3 h (fun b o e => by have := hf h0 b o e; omega)
theorem from_back {b : Int} {es : List En} {k : Nat} {most : Int} (hk : k ≤ es.length) : fromL b es (b + (k : Int) + 1) most = (es.drop k).take most.toNat := by
  by_cases h : b + (es.length : Int) < b + (k : Int) + 1
  · rw [fromL_none (by omega), List.drop_of_length_le (by omega), List.take_nil]
  by_cases h2 : most ≤ 0
  · rw [fromL_none (by omega), show most.toNat = 0 by omega, List.take_zero]
  · rw [fromL_some (by omega), show (b + (k : Int) + 1 - b - 1).toNat = k by omega]
theorem merge_own {es : List En} {k m : Nat} (hk : k ≤ es.length) : mergeL es k ((es.drop k).take m) = es := by
  refine mergeL_there (by rw [List.length_take, List.length_drop]; omega) fun i hi => ?_
  rw [List.length_take, List.length_drop] at hi
  have h1 : k + i < es.length := by omega
  rw [getD_at h1, List.getElem_take, List.getElem_drop]
set_option maxRecDepth 100000 in
set_option maxHeartbeats 6400000 in
theorem entriesKeeps_walk (b u : Int) (a : Option Addr) (cap : Nat) (es : List En) (i most : Int) (w : World) (hl : LogIn w a cap es) :
    Calls Try.prog 12 #[logV b u a es.length cap, .int .i64 i, .int .i64 most] w fun e w' => e = .returned (.bool true) ∧ Below w.heap.size w w' := by
  have HF : Hid (∀ W, Calls Try.prog 16 #[logV b u a es.length cap] W fun e w' => e = .returned (.bool (decide ((es.length : Int) ≤ 100))) ∧ Below W.heap.size W w') := fun W => few_any b u a es.length cap W
  have HMy : Hid (∀ W, Below w.heap.size w W → Calls Try.prog 28 #[logV b u a es.length cap] W fun e w' => e = .returned (.bool (mayL b u es)) ∧ Below W.heap.size W w') := fun W h => may_any b u a cap es W (hl.below h)
  by_cases h100 : (es.length : Int) ≤ 100
  rotate_left 1
  · rw [decide_eq_false h100] at HF
    clear h100 hl
    go_enter Try.func12, Try.ntmps12
    go_wp2_with (first
      | (go_at_call 24; refine (entriesAwake_any _).mono ?_; rintro e w1 ⟨rfl, hb1⟩; have hw0 := alloc_below hb1; have g0 := blk_keep hb1 (blk_new w _); obtain ⟨hc0, hc1, hc2, _, _, _, hlt0⟩ := box3 g0)
      | (go_at_call 16; refine (HF.out _).mono ?_; rintro e w2 ⟨rfl, hb2⟩; replace hw0 := hw0.trans (hb2.mono hw0.size); replace g0 := blk_keep hb2 g0; obtain ⟨hc0, hc1, hc2, _, _, _, hlt0⟩ := box3 g0))
    go_ret
    exact ⟨rfl, hw0⟩
  rw [decide_eq_true h100] at HF
  cases hmay : mayL b u es with
  | false =>
    rw [hmay] at HMy
    clear hl h100
    go_enter Try.func12, Try.ntmps12
    go_wp2_with (first
      | (go_at_call 24; refine (entriesAwake_any _).mono ?_; rintro e w1 ⟨rfl, hb1⟩; have hw0 := alloc_below hb1; have g0 := blk_keep hb1 (blk_new w _); obtain ⟨hc0, hc1, hc2, _, _, _, hlt0⟩ := box3 g0)
      | (go_at_call 16; refine (HF.out _).mono ?_; rintro e w2 ⟨rfl, hb2⟩; replace hw0 := hw0.trans (hb2.mono hw0.size); replace g0 := blk_keep hb2 g0; obtain ⟨hc0, hc1, hc2, _, _, _, hlt0⟩ := box3 g0)
      | (go_at_call 28; refine (HMy.out _ hw0).mono ?_; rintro e w3 ⟨rfl, hb3⟩; replace hw0 := hw0.trans (hb3.mono hw0.size); replace g0 := blk_keep hb3 g0; obtain ⟨hc0, hc1, hc2, _, _, _, hlt0⟩ := box3 g0))
    go_ret
    exact ⟨rfl, hw0⟩
  | true =>
    rw [hmay] at HMy
    have HTe0 : Hid (∀ W, Below w.heap.size w W → Calls Try.prog 30 #[logV b u a es.length cap, .int .i64 i] W fun e w' => e = .returned (.tuple #[.int .i64 (termL b u es i).1, .bool (termL b u es i).2]) ∧ Below W.heap.size W w') := fun W h => by
      have := term_any b u a cap es i W (hl.below h)
      unfold termF at this
      rwa [fairL_yes hmay] at this
    by_cases ho : i < b ∨ b + (es.length : Int) < i
    · rw [termL_out ho] at HTe0
      have HTe := HTe0
      clear hl h100 ho HTe0
      go_enter Try.func12, Try.ntmps12
      go_wp2_with (first
        | (go_at_call 24; refine (entriesAwake_any _).mono ?_; rintro e w1 ⟨rfl, hb1⟩; have hw0 := alloc_below hb1; have g0 := blk_keep hb1 (blk_new w _); obtain ⟨hc0, hc1, hc2, _, _, _, hlt0⟩ := box3 g0)
        | (go_at_call 16; refine (HF.out _).mono ?_; rintro e w2 ⟨rfl, hb2⟩; replace hw0 := hw0.trans (hb2.mono hw0.size); replace g0 := blk_keep hb2 g0; obtain ⟨hc0, hc1, hc2, _, _, _, hlt0⟩ := box3 g0)
        | (go_at_call 28; refine (HMy.out _ hw0).mono ?_; rintro e w3 ⟨rfl, hb3⟩; replace hw0 := hw0.trans (hb3.mono hw0.size); replace g0 := blk_keep hb3 g0; obtain ⟨hc0, hc1, hc2, _, _, _, hlt0⟩ := box3 g0)
        | (go_at_call 30; refine (HTe.out _ hw0).mono ?_; rintro e w4 ⟨rfl, hb4⟩; replace hw0 := hw0.trans (hb4.mono hw0.size); replace g0 := blk_keep hb4 g0; obtain ⟨hc0, hc1, hc2, _, _, _, hlt0⟩ := box3 g0))
      go_ret
      exact ⟨rfl, hw0⟩
    obtain ⟨k, rfl⟩ : ∃ k : Nat, i = b + (k : Int) := ⟨(i - b).toNat, by omega⟩
    have hk : k ≤ es.length := by omega
    rw [termL_at k hk rfl] at HTe0
    have HTe := HTe0
    clear HTe0 ho
    obtain ⟨m1, m2, _, _, _, m6, m7⟩ := mayL_true hmay
    have HFr : Hid (∀ W, Below w.heap.size w W → Calls Try.prog 32 #[logV b u a es.length cap, .int .i64 (b + (k : Int) + 1), .int .i64 most] W (RetRow 55 7 ((es.drop k).take most.toNat).length (ensV ((es.drop k).take most.toNat)) W)) := fun W h => by
      have := from_any b u a cap es (b + (k : Int) + 1) most W (hl.below h)
      unfold fromF at this
      rwa [fairL_yes hmay, from_back hk] at this
    have hrs : rising ((es.drop k).take most.toNat) (endT (es.take k) u) = true := rising_take (rising_drop m7 k) _
    have hmo := merge_own (es := es) (k := k) (m := most.toNat) hk
    have hml : ((es.drop k).take most.toNat).length ≤ 64 := by rw [List.length_take, List.length_drop]; omega
    generalize (es.drop k).take most.toNat = P at HFr hrs hmo hml
    generalize hET : endT (es.take k) u = E at HTe hrs
    have HAd : Hid (∀ W a' c', Below w.heap.size w W → LogIn W a' c' P → Calls Try.prog 25 #[logV b u a es.length cap, .int .i64 (b + (k : Int)), .int .i64 E, .slice a' P.length c'] W (RetLog (b, u, es, 0) W)) := fun W a' c' h h' => by
      have := add_any b u a cap es (b + (k : Int)) E a' c' P W (hl.below h) h' (by omega)
      rwa [addF_mk hk hmay hrs hET (by rw [hmo]; exact m6), hmo] at this
    have HLg : Hid (∀ W a' c', Below w.heap.size w W → LogIn W a' c' es → Calls Try.prog 27 #[logV b u a' es.length c', logV b u a es.length cap] W fun e w' => e = .returned (.bool true) ∧ Below W.heap.size W w') := fun W a' c' h h' => by
      have := logs_any b u a' c' es b u a cap es W h' (hl.below h)
      rwa [show (decide (es = es) && b == b && u == u) = true by simp] at this
    have hk64 : (k : Int) ≤ 100 := by omega
    clear hl h100 hmay m6 m7 hrs hmo hml hET hk
    go_enter Try.func12, Try.ntmps12
    go_wp2_with (first
      | (go_at_call 24; refine (entriesAwake_any _).mono ?_; rintro e w1 ⟨rfl, hb1⟩; have hw0 := alloc_below hb1; have g0 := blk_keep hb1 (blk_new w _); obtain ⟨hc0, hc1, hc2, _, _, _, hlt0⟩ := box3 g0)
      | (go_at_call 16; refine (HF.out _).mono ?_; rintro e w2 ⟨rfl, hb2⟩; replace hw0 := hw0.trans (hb2.mono hw0.size); replace g0 := blk_keep hb2 g0; obtain ⟨hc0, hc1, hc2, _, _, _, hlt0⟩ := box3 g0)
      | (go_at_call 28; refine (HMy.out _ hw0).mono ?_; rintro e w3 ⟨rfl, hb3⟩; replace hw0 := hw0.trans (hb3.mono hw0.size); replace g0 := blk_keep hb3 g0; obtain ⟨hc0, hc1, hc2, _, _, _, hlt0⟩ := box3 g0)
      | (go_at_call 30; refine (HTe.out _ hw0).mono ?_; rintro e w4 ⟨rfl, hb4⟩; replace hw0 := hw0.trans (hb4.mono hw0.size); replace g0 := blk_keep hb4 g0; obtain ⟨hc0, hc1, hc2, _, _, _, hlt0⟩ := box3 g0))
    have hwb : IntKind.i64.wrap (b + (k : Int) + 1) = b + (k : Int) + 1 := by rw [IntKind.wrap_i64]; omega
    go_upto_region 8 with fail
    go_cut [11, 12] (fun p q wx => ∃ X a6 c6, p = .pointer (some ⟨X, 0, none⟩) ∧ q = .int .i64 0 ∧ wx.heap[X]? = some (.cells #[.int .i64 b, .int .i64 u, .slice a6 es.length c6] 26) ∧ LogIn wx a6 c6 es ∧ Below w4.heap.size w4 wx)
    case first =>
      go_region_held3 (fun W => W.cell? ⟨w.heap.size, 0, none⟩ = some (.int .i64 b) ∧ W.cell? ⟨w.heap.size, 1, none⟩ = some (.int .i64 u) ∧ W.cell? ⟨w.heap.size, 2, none⟩ = some (.slice a es.length cap)) (first | exact ⟨zhc0, zhc1, zhc2⟩ | exact ⟨yhc0, yhc1, yhc2⟩ | exact ⟨hc0, hc1, hc2⟩ | exact hfar6 _ (by omega) _ _ _ | go_keep) (first
        | (go_at_call 25; refine (HAd.out _ _ _ (by first | exact hw0.trans (hb5'.mono hw0.size) | exact (hw0.trans (hb5'.mono hw0.size)).alloc (hw0.trans (hb5'.mono hw0.size)).size _) (by first | exact hl5 | exact hl5.below (below1 _ _))).mono ?_; rintro e w6 ⟨a6, c6, rfl, hl6, hfr6, hb6⟩; have hb6' : Below w4.heap.size w4 w6 := (by first | exact hb5'.trans (hb6.mono hb5'.size) | exact (hb5'.alloc hb5'.size _).trans (hb6.mono (hb5'.alloc hb5'.size _).size)); have hsz6 := hb6'.size; have zhc0 := ((bcell hb6').1 _ _ hlt0).trans hc0; have zhc1 := ((bcell hb6').1 _ _ hlt0).trans hc1; have zhc2 := ((bcell hb6').1 _ _ hlt0).trans hc2; have gF6 := blk_keep hb6' g0; have hfar6 : ∀ X, w.heap.size ≠ X → ∀ x y z, (set3 w6 X x y z).cell? ⟨w.heap.size, 0, none⟩ = some (.int .i64 b) ∧ (set3 w6 X x y z).cell? ⟨w.heap.size, 1, none⟩ = some (.int .i64 u) ∧ (set3 w6 X x y z).cell? ⟨w.heap.size, 2, none⟩ = some (.slice a es.length cap) := (fun X h x y z => by obtain ⟨p0, p1, p2, _⟩ := box3 (set3_far gF6 h x y z); exact ⟨p0, p1, p2⟩); (try (have gX3 := blk_keep hb6 gX2; have hXlt := blk_lt gX2; obtain ⟨xq0, xq1, xq2, xf0, xf1, xf2, xqlt⟩ := box3 gX3)); (try (have gX3 := blk_keep hb6 (blk_new w5 (.cells #[.int .i64 0, .int .i64 0, .slice none 0 0] 26)); have hXlt := blk_lt (blk_new w5 (.cells #[.int .i64 0, .int .i64 0, .slice none 0 0] 26)); obtain ⟨xq0, xq1, xq2, xf0, xf1, xf2, xqlt⟩ := box3 gX3)))
        | (go_at_call 32; refine (HFr.out _ (by first | exact hw0.drew | exact (hw0.alloc hw0.size _).drew)).mono ?_; rintro e w5 ⟨a5, c5, rfl, hown5, hb5⟩; have hb5' : Below w4.heap.size w4 w5 := (by first | exact (below0 w4).drew.trans (hb5.mono (below0 w4).drew.size) | exact (below1 w4 _).drew.trans (hb5.mono (below1 w4 _).drew.size)); have yhc0 := ((bcell hb5').1 _ _ hlt0).trans hc0; have yhc1 := ((bcell hb5').1 _ _ hlt0).trans hc1; have yhc2 := ((bcell hb5').1 _ _ hlt0).trans hc2; have hsz5 := hb5'.size; have hl5 : LogIn w5 a5 c5 P := LogIn.of_own hown5; (try (have gX2 := blk_keep hb5 (blk_drawn (blk_new w4 (.cells #[.int .i64 0, .int .i64 0, .slice none 0 0] 26)))))))
      all_goals (go_wp2_with fail; go_meet)
      all_goals (first
        | exact ⟨w6.heap.size, a6, c6, rfl, rfl, blk_new _ _, hl6.below (below1 _ _), hb6'.alloc hb6'.size _⟩
        | exact ⟨_, a6, c6, rfl, rfl, set3_blk gX3 _ _ _, log_far hl6 (fun h0 b' o h => Nat.lt_of_lt_of_le hXlt (hfr6 h0 b' o h)), set3_below hb6' (by omega) _ _ _⟩)
    case rest =>
      obtain ⟨X, a6, c6, rfl, rfl, gX, hl6, hbx⟩ := hcut
      replace g0 := blk_keep hbx g0
      replace hw0 := hw0.trans (hbx.mono hw0.size)
      obtain ⟨hc0, hc1, hc2, _, _, _, hlt0⟩ := box3 g0
      obtain ⟨xc0, xc1, xc2, _, _, _, xlt⟩ := box3 gX
      go_wp2_with (go_at_call 27; refine (HLg.out _ _ _ hw0 hl6).mono ?_; rintro e w7 ⟨rfl, hb7⟩)
      go_ret
      exact ⟨rfl, hw0.trans (hb7.mono hw0.size)⟩
end Go.Proofs.Ytifbcdjabdfeeaa
