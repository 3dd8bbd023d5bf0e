/-
  Layer 5's laws: VoteSees.
-/
import Derived.Test.YtifbcdjabdfeeaaVoteF
namespace Go.Proofs.Ytifbcdjabdfeeaa
open Go.RowKit
set_option linter.unusedVariables false
theorem seeF_two {t v s r : Int} (hs : s ≤ 1073741824) (hr : r ≤ 1073741824) : seeF (seeF t v s).1 (seeF t v s).2 r = seeF t v (max s r) := by
  unfold seeF
  by_cases h1 : t < s ∧ s ≤ 1073741824
  · rw [if_pos h1]
    by_cases h2 : s < r
    · rw [if_pos (show (s, (0 : Int)).1 < r ∧ r ≤ 1073741824 from ⟨h2, hr⟩), if_pos (by omega), show max s r = r by omega]
    · rw [if_neg (by simp; omega), if_pos (by omega), show max s r = s by omega]
  · rw [if_neg h1]
    by_cases h2 : t < r
    · rw [if_pos (show (t, v).1 < r ∧ r ≤ 1073741824 from ⟨h2, hr⟩), if_pos (by omega), show max s r = r by omega]
    · rw [if_neg (by simp; omega), if_neg (by omega)]
set_option maxHeartbeats 3200000 in
theorem voteSees_walk (t v s r : Int) (w : World) :
    Calls Try.prog 8 #[ballotV t v, .int .i64 s, .int .i64 r] w fun e w' => e = .returned (.bool true) ∧ Below w.heap.size w w' := by
  have HM : Hid (∀ W, Calls Try.prog 22 #[ballotV t v] W fun e w' => e = .returned (.bool (mayV t v)) ∧ Below W.heap.size W w') := fun W => mayV_any t v W
  generalize mayV t v = my at HM
  cases my with
  | false =>
    go_enter Try.func8, Try.ntmps8
    go_wp2_with (first
      | (go_at_call 15; refine (voteAwake_any _).mono ?_; rintro e w1 ⟨rfl, hb1⟩; have hw0 := below1 w (.cells #[.int .i64 t, .int .i64 v] 23); have g0 := blk_new w (.cells #[.int .i64 t, .int .i64 v] 23); replace hw0 := hw0.trans (hb1.mono hw0.size); replace g0 := blk_keep hb1 g0; obtain ⟨hc0, hc1, _, _, hlt0⟩ := box2 g0)
      | (go_at_call 22; refine (HM.out _).mono ?_; rintro e w2 ⟨rfl, hb2⟩; replace hw0 := hw0.trans (hb2.mono hw0.size); replace g0 := blk_keep hb2 g0; obtain ⟨hc0, hc1, _, _, hlt0⟩ := box2 g0))
    go_ret
    exact ⟨rfl, hw0⟩
  | true =>
    by_cases h1 : s < 0
    · go_enter Try.func8, Try.ntmps8
      go_wp2_with (first
        | (go_at_call 15; refine (voteAwake_any _).mono ?_; rintro e w1 ⟨rfl, hb1⟩; have hw0 := below1 w (.cells #[.int .i64 t, .int .i64 v] 23); have g0 := blk_new w (.cells #[.int .i64 t, .int .i64 v] 23); replace hw0 := hw0.trans (hb1.mono hw0.size); replace g0 := blk_keep hb1 g0; obtain ⟨hc0, hc1, _, _, hlt0⟩ := box2 g0)
        | (go_at_call 22; refine (HM.out _).mono ?_; rintro e w2 ⟨rfl, hb2⟩; replace hw0 := hw0.trans (hb2.mono hw0.size); replace g0 := blk_keep hb2 g0; obtain ⟨hc0, hc1, _, _, hlt0⟩ := box2 g0))
      go_ret
      exact ⟨rfl, hw0⟩
    by_cases h2 : 1073741824 < s
    · go_enter Try.func8, Try.ntmps8
      go_wp2_with (first
        | (go_at_call 15; refine (voteAwake_any _).mono ?_; rintro e w1 ⟨rfl, hb1⟩; have hw0 := below1 w (.cells #[.int .i64 t, .int .i64 v] 23); have g0 := blk_new w (.cells #[.int .i64 t, .int .i64 v] 23); replace hw0 := hw0.trans (hb1.mono hw0.size); replace g0 := blk_keep hb1 g0; obtain ⟨hc0, hc1, _, _, hlt0⟩ := box2 g0)
        | (go_at_call 22; refine (HM.out _).mono ?_; rintro e w2 ⟨rfl, hb2⟩; replace hw0 := hw0.trans (hb2.mono hw0.size); replace g0 := blk_keep hb2 g0; obtain ⟨hc0, hc1, _, _, hlt0⟩ := box2 g0))
      go_ret
      exact ⟨rfl, hw0⟩
    by_cases h3 : r < 0
    · go_enter Try.func8, Try.ntmps8
      go_wp2_with (first
        | (go_at_call 15; refine (voteAwake_any _).mono ?_; rintro e w1 ⟨rfl, hb1⟩; have hw0 := below1 w (.cells #[.int .i64 t, .int .i64 v] 23); have g0 := blk_new w (.cells #[.int .i64 t, .int .i64 v] 23); replace hw0 := hw0.trans (hb1.mono hw0.size); replace g0 := blk_keep hb1 g0; obtain ⟨hc0, hc1, _, _, hlt0⟩ := box2 g0)
        | (go_at_call 22; refine (HM.out _).mono ?_; rintro e w2 ⟨rfl, hb2⟩; replace hw0 := hw0.trans (hb2.mono hw0.size); replace g0 := blk_keep hb2 g0; obtain ⟨hc0, hc1, _, _, hlt0⟩ := box2 g0))
      go_ret
      exact ⟨rfl, hw0⟩
    by_cases h4 : 1073741824 < r
    · go_enter Try.func8, Try.ntmps8
      go_wp2_with (first
        | (go_at_call 15; refine (voteAwake_any _).mono ?_; rintro e w1 ⟨rfl, hb1⟩; have hw0 := below1 w (.cells #[.int .i64 t, .int .i64 v] 23); have g0 := blk_new w (.cells #[.int .i64 t, .int .i64 v] 23); replace hw0 := hw0.trans (hb1.mono hw0.size); replace g0 := blk_keep hb1 g0; obtain ⟨hc0, hc1, _, _, hlt0⟩ := box2 g0)
        | (go_at_call 22; refine (HM.out _).mono ?_; rintro e w2 ⟨rfl, hb2⟩; replace hw0 := hw0.trans (hb2.mono hw0.size); replace g0 := blk_keep hb2 g0; obtain ⟨hc0, hc1, _, _, hlt0⟩ := box2 g0))
      go_ret
      exact ⟨rfl, hw0⟩
    have HSV : Hid (s ≤ t ∧ seeF t v s = (t, v) ∨ t < s ∧ seeF t v s = (s, 0)) := by
      by_cases h : t < s
      · exact .inr ⟨h, if_pos ⟨h, by omega⟩⟩
      · exact .inl ⟨by omega, if_neg (by omega)⟩
    have HS : Hid (∀ W, Calls Try.prog 19 #[ballotV t v, .int .i64 s] W fun e w' => e = .returned (ballotV (seeF t v s).1 (seeF t v s).2) ∧ Below W.heap.size W w') := fun W => see_any t v s W
    have HA : Hid (∀ W, Calls Try.prog 19 #[ballotV (seeF t v s).1 (seeF t v s).2, .int .i64 r] W fun e w' => e = .returned (ballotV (seeF t v (max s r)).1 (seeF t v (max s r)).2) ∧ Below W.heap.size W w') := fun W => by
      have := see_any (seeF t v s).1 (seeF t v s).2 r W
      rwa [seeF_two (by omega) (by omega)] at this
    have HB : Hid (∀ W, Calls Try.prog 19 #[ballotV t v, .int .i64 (max s r)] W fun e w' => e = .returned (ballotV (seeF t v (max s r)).1 (seeF t v (max s r)).2) ∧ Below W.heap.size W w') := fun W => see_any t v (max s r) W
    generalize seeF t v (max s r) = z at HA HB
    obtain ⟨z1, z2⟩ := z
    simp only at HA HB
    have hsv := HSV.out
    clear HSV
    rcases hsv with ⟨hs, hsv⟩ | ⟨hs, hsv⟩
    · rw [hsv] at HS HA
      simp only at HS HA
      have hd1 : decide (s ≤ t) = true := decide_eq_true hs
      clear hsv hs
      by_cases hm : s < r
      · rw [show max s r = r by omega] at HB
        go_enter Try.func8, Try.ntmps8
        go_wp2_with (first
          | (go_at_call 15; refine (voteAwake_any _).mono ?_; rintro e w1 ⟨rfl, hb1⟩; have hw0 := below1 w (.cells #[.int .i64 t, .int .i64 v] 23); have g0 := blk_new w (.cells #[.int .i64 t, .int .i64 v] 23); replace hw0 := hw0.trans (hb1.mono hw0.size); replace g0 := blk_keep hb1 g0; obtain ⟨hc0, hc1, _, _, hlt0⟩ := box2 g0)
          | (go_at_call 22; refine (HM.out _).mono ?_; rintro e w2 ⟨rfl, hb2⟩; replace hw0 := hw0.trans (hb2.mono hw0.size); replace g0 := blk_keep hb2 g0; obtain ⟨hc0, hc1, _, _, hlt0⟩ := box2 g0)
          | (go_at_call 19; refine (HS.out _).mono ?_; rintro e w3 ⟨rfl, hb3⟩; replace hw0 := hw0.trans (hb3.mono hw0.size); replace g0 := blk_keep hb3 g0; obtain ⟨hc0, hc1, _, _, hlt0⟩ := box2 g0; have gX := blk_new w3 (.cells #[.int .i64 t, .int .i64 v] 23); replace g0 := blk_alloc g0 (.cells #[.int .i64 t, .int .i64 v] 23); replace hw0 := hw0.alloc hw0.size (.cells #[.int .i64 t, .int .i64 v] 23)))
        obtain ⟨xc0, xc1, _, _, xlt⟩ := box2 gX
        have fc0 := blk_cell g0 0
        have fc1 := blk_cell g0 1
        refine wp_region_held_drew (S := (fun W => W.cell? ⟨w3.heap.size, 0, none⟩ = some (.int .i64 t) ∧ W.cell? ⟨w3.heap.size, 1, none⟩ = some (.int .i64 v) ∧ W.cell? ⟨w.heap.size, 0, none⟩ = some (.int .i64 t) ∧ W.cell? ⟨w.heap.size, 1, none⟩ = some (.int .i64 v))) (by kernel_rfl) ?_ (fun hHeld => ?_)
        · ((try dsimp only); first | exact ⟨x60, x61, f60, f61⟩ | exact ⟨x50, x51, f50, f51⟩ | exact ⟨xc0, xc1, fc0, fc1⟩)
        refine wpAnyH_take (i := 0) (oi := { dst := some 43, op := Op.move (Operand.tmp 1), type := 3, pos := "more.go:20", after := #[], guard := none }) (v := ?_) rfl (by kernel_rfl) (by kernel_rfl) (by kernel_rfl) (fun _ _ _ h => h) (Or.inl ⟨by rfl, ?_⟩) (by assumption) ?_
        rotate_left 1
        · ((intro w hSw); (try dsimp only at hSw); go_simp; try (with_reducible rfl))
        try simp only [Act.put, List.setIfInBounds_toArray, List.set_cons_zero, List.set_cons_succ]
        refine wpAnyH_take (i := 1) (oi := { dst := some 44, op := Op.fieldAddr 23 (Operand.tmp 3) 0, type := 0, pos := "more.go:20", after := #[], guard := none }) (v := ?_) rfl (by kernel_rfl) (by kernel_rfl) (by kernel_rfl) (fun _ _ _ h => h) (Or.inl ⟨by rfl, ?_⟩) (by assumption) ?_
        rotate_left 1
        · ((intro w hSw); (try dsimp only at hSw); go_simp; try (with_reducible rfl))
        try simp only [Act.put, List.setIfInBounds_toArray, List.set_cons_zero, List.set_cons_succ]
        refine wpAnyH_take (i := 2) (oi := { dst := some 45, op := Op.load 3 (Operand.tmp 44), type := 3, pos := "more.go:20", after := #[{ on := 1, ground := Ground.data }], guard := none }) (v := ?_) rfl (by kernel_rfl) (by kernel_rfl) (by kernel_rfl) (fun _ _ _ h => h) (Or.inl ⟨by rfl, ?_⟩) (by assumption) ?_
        rotate_left 1
        · ((intro w hSw); (try dsimp only at hSw); go_simp; try (with_reducible rfl))
        try simp only [Act.put, List.setIfInBounds_toArray, List.set_cons_zero, List.set_cons_succ]
        refine wpAnyH_take (i := 3) (oi := { dst := some 46, op := Op.binOp BinOp.leq 3 (Operand.tmp 43) (Operand.tmp 45) 3, type := 4, pos := "more.go:20", after := #[{ on := 0, ground := Ground.data }, { on := 2, ground := Ground.data }], guard := none }) (v := ?_) rfl (by kernel_rfl) (by kernel_rfl) (by kernel_rfl) (fun _ _ _ h => h) (Or.inl ⟨by rfl, ?_⟩) (by assumption) ?_
        rotate_left 1
        · ((intro w hSw); (try dsimp only at hSw); go_simp; try (with_reducible rfl))
        try simp only [Act.put, List.setIfInBounds_toArray, List.set_cons_zero, List.set_cons_succ]
        refine wpAnyH_take (i := 4) (oi := { dst := some 47, op := Op.move (Operand.tmp 46), type := 4, pos := "more.go:20", after := #[{ on := 3, ground := Ground.data }], guard := none }) (v := ?_) rfl (by kernel_rfl) (by kernel_rfl) (by kernel_rfl) (fun _ _ _ h => h) (Or.inl ⟨by rfl, ?_⟩) (by assumption) ?_
        rotate_left 1
        · ((intro w hSw); (try dsimp only at hSw); go_simp; try (with_reducible rfl))
        try simp only [Act.put, List.setIfInBounds_toArray, List.set_cons_zero, List.set_cons_succ]
        refine wpAnyH_take (i := 5) (oi := { dst := some 48, op := Op.load 23 (Operand.tmp 8), type := 23, pos := "more.go:20", after := #[{ on := 4, ground := Ground.guard }], guard := some (4, true) }) (v := ?_) rfl (by kernel_rfl) (by kernel_rfl) (by kernel_rfl) (fun _ _ _ h => h) (Or.inl ⟨by rfl, ?_⟩) (by assumption) ?_
        rotate_left 1
        · ((intro w hSw); (try dsimp only at hSw); go_simp; try (with_reducible rfl))
        try simp only [Act.put, List.setIfInBounds_toArray, List.set_cons_zero, List.set_cons_succ]
        refine wpAnyH_take (i := 6) (oi := { dst := some 49, op := Op.load 23 (Operand.tmp 3), type := 23, pos := "more.go:20", after := #[{ on := 4, ground := Ground.guard }], guard := some (4, true) }) (v := ?_) rfl (by kernel_rfl) (by kernel_rfl) (by kernel_rfl) (fun _ _ _ h => h) (Or.inl ⟨by rfl, ?_⟩) (by assumption) ?_
        rotate_left 1
        · ((intro w hSw); (try dsimp only at hSw); go_simp; try (with_reducible rfl))
        try simp only [Act.put, List.setIfInBounds_toArray, List.set_cons_zero, List.set_cons_succ]
        refine wpAnyH_take (i := 7) (oi := { dst := some 50, op := Op.binOp BinOp.eql 23 (Operand.tmp 48) (Operand.tmp 49) 23, type := 4, pos := "more.go:20", after := #[{ on := 5, ground := Ground.data }, { on := 6, ground := Ground.data }, { on := 4, ground := Ground.guard }], guard := some (4, true) }) (v := ?_) rfl (by kernel_rfl) (by kernel_rfl) (by kernel_rfl) (fun _ _ _ h => h) (Or.inl ⟨by rfl, ?_⟩) (by assumption) ?_
        rotate_left 1
        · ((intro w hSw); (try dsimp only at hSw); go_simp; try (with_reducible rfl))
        try simp only [Act.put, List.setIfInBounds_toArray, List.set_cons_zero, List.set_cons_succ]
        refine wpAnyH_take (i := 8) (oi := { dst := some 51, op := Op.pick (Operand.tmp 47) (Operand.tmp 50) (Operand.const (Value.bool false)), type := 4, pos := "more.go:20", after := #[{ on := 4, ground := Ground.data }, { on := 7, ground := Ground.data }], guard := none }) (v := ?_) rfl (by kernel_rfl) (by kernel_rfl) (by kernel_rfl) (fun _ _ _ h => h) (Or.inl ⟨by rfl, ?_⟩) (by assumption) ?_
        rotate_left 1
        · ((intro w hSw); (try dsimp only at hSw); go_simp; try (with_reducible rfl))
        try simp only [Act.put, List.setIfInBounds_toArray, List.set_cons_zero, List.set_cons_succ]
        refine wpAnyH_take (i := 9) (oi := { dst := some 52, op := Op.move (Operand.tmp 51), type := 4, pos := "more.go:20", after := #[{ on := 8, ground := Ground.data }, { on := 4, ground := Ground.chain }], guard := none }) (v := ?_) rfl (by kernel_rfl) (by kernel_rfl) (by kernel_rfl) (fun _ _ _ h => h) (Or.inl ⟨by rfl, ?_⟩) (by assumption) ?_
        rotate_left 1
        · ((intro w hSw); (try dsimp only at hSw); go_simp; try (with_reducible rfl))
        try simp only [Act.put, List.setIfInBounds_toArray, List.set_cons_zero, List.set_cons_succ]
        refine wpAnyH_take (i := 10) (oi := { dst := some 53, op := Op.move (Operand.tmp 1), type := 3, pos := "more.go:20", after := #[{ on := 9, ground := Ground.guard }], guard := some (9, false) }) (v := undef) rfl (by kernel_rfl) (by kernel_rfl) (by kernel_rfl) (fun _ _ _ h => h) (Or.inr ⟨by rfl, rfl⟩) (by assumption) ?_
        try simp only [Act.put, List.setIfInBounds_toArray, List.set_cons_zero, List.set_cons_succ]
        refine wpAnyH_take (i := 11) (oi := { dst := some 54, op := Op.fieldAddr 23 (Operand.tmp 3) 0, type := 0, pos := "more.go:20", after := #[{ on := 9, ground := Ground.guard }], guard := some (9, false) }) (v := undef) rfl (by kernel_rfl) (by kernel_rfl) (by kernel_rfl) (fun _ _ _ h => h) (Or.inr ⟨by rfl, rfl⟩) (by assumption) ?_
        try simp only [Act.put, List.setIfInBounds_toArray, List.set_cons_zero, List.set_cons_succ]
        refine wpAnyH_take (i := 12) (oi := { dst := some 55, op := Op.load 3 (Operand.tmp 54), type := 3, pos := "more.go:20", after := #[{ on := 11, ground := Ground.data }, { on := 9, ground := Ground.guard }], guard := some (9, false) }) (v := undef) rfl (by kernel_rfl) (by kernel_rfl) (by kernel_rfl) (fun _ _ _ h => h) (Or.inr ⟨by rfl, rfl⟩) (by assumption) ?_
        try simp only [Act.put, List.setIfInBounds_toArray, List.set_cons_zero, List.set_cons_succ]
        refine wpAnyH_take (i := 13) (oi := { dst := some 56, op := Op.binOp BinOp.gtr 3 (Operand.tmp 53) (Operand.tmp 55) 3, type := 4, pos := "more.go:20", after := #[{ on := 10, ground := Ground.data }, { on := 12, ground := Ground.data }, { on := 9, ground := Ground.guard }], guard := some (9, false) }) (v := undef) rfl (by kernel_rfl) (by kernel_rfl) (by kernel_rfl) (fun _ _ _ h => h) (Or.inr ⟨by rfl, rfl⟩) (by assumption) ?_
        try simp only [Act.put, List.setIfInBounds_toArray, List.set_cons_zero, List.set_cons_succ]
        refine wpAnyH_take (i := 14) (oi := { dst := some 57, op := Op.move (Operand.tmp 56), type := 4, pos := "more.go:20", after := #[{ on := 13, ground := Ground.data }, { on := 9, ground := Ground.chain }, { on := 9, ground := Ground.guard }], guard := some (9, false) }) (v := undef) rfl (by kernel_rfl) (by kernel_rfl) (by kernel_rfl) (fun _ _ _ h => h) (Or.inr ⟨by rfl, rfl⟩) (by assumption) ?_
        try simp only [Act.put, List.setIfInBounds_toArray, List.set_cons_zero, List.set_cons_succ]
        refine wpAnyH_take (i := 15) (oi := { dst := some 58, op := Op.load 23 (Operand.tmp 8), type := 23, pos := "more.go:20", after := #[{ on := 14, ground := Ground.guard }], guard := some (14, true) }) (v := undef) rfl (by kernel_rfl) (by kernel_rfl) (by kernel_rfl) (fun _ _ _ h => h) (Or.inr ⟨by rfl, rfl⟩) (by assumption) ?_
        try simp only [Act.put, List.setIfInBounds_toArray, List.set_cons_zero, List.set_cons_succ]
        refine wpAnyH_take (i := 16) (oi := { dst := some 59, op := Op.move (Operand.tmp 1), type := 3, pos := "more.go:20", after := #[{ on := 14, ground := Ground.guard }], guard := some (14, true) }) (v := undef) rfl (by kernel_rfl) (by kernel_rfl) (by kernel_rfl) (fun _ _ _ h => h) (Or.inr ⟨by rfl, rfl⟩) (by assumption) ?_
        try simp only [Act.put, List.setIfInBounds_toArray, List.set_cons_zero, List.set_cons_succ]
        refine wpAnyH_take (i := 17) (oi := { dst := some 60, op := Op.build 23 #[(0, Operand.tmp 59)], type := 23, pos := "more.go:20", after := #[{ on := 16, ground := Ground.data }, { on := 14, ground := Ground.guard }], guard := some (14, true) }) (v := undef) rfl (by kernel_rfl) (by kernel_rfl) (by kernel_rfl) (fun _ _ _ h => h) (Or.inr ⟨by rfl, rfl⟩) (by assumption) ?_
        try simp only [Act.put, List.setIfInBounds_toArray, List.set_cons_zero, List.set_cons_succ]
        refine wpAnyH_take (i := 18) (oi := { dst := some 61, op := Op.binOp BinOp.eql 23 (Operand.tmp 58) (Operand.tmp 60) 23, type := 4, pos := "more.go:20", after := #[{ on := 15, ground := Ground.data }, { on := 17, ground := Ground.data }, { on := 14, ground := Ground.guard }], guard := some (14, true) }) (v := undef) rfl (by kernel_rfl) (by kernel_rfl) (by kernel_rfl) (fun _ _ _ h => h) (Or.inr ⟨by rfl, rfl⟩) (by assumption) ?_
        try simp only [Act.put, List.setIfInBounds_toArray, List.set_cons_zero, List.set_cons_succ]
        refine wpAnyH_take (i := 19) (oi := { dst := some 62, op := Op.pick (Operand.tmp 57) (Operand.tmp 61) (Operand.const (Value.bool false)), type := 4, pos := "more.go:20", after := #[{ on := 14, ground := Ground.data }, { on := 18, ground := Ground.data }, { on := 9, ground := Ground.guard }], guard := some (9, false) }) (v := undef) rfl (by kernel_rfl) (by kernel_rfl) (by kernel_rfl) (fun _ _ _ h => h) (Or.inr ⟨by rfl, rfl⟩) (by assumption) ?_
        try simp only [Act.put, List.setIfInBounds_toArray, List.set_cons_zero, List.set_cons_succ]
        refine wpAnyH_take (i := 20) (oi := { dst := some 63, op := Op.pick (Operand.tmp 52) (Operand.const (Value.bool true)) (Operand.tmp 62), type := 4, pos := "more.go:20", after := #[{ on := 9, ground := Ground.data }, { on := 19, ground := Ground.data }], guard := none }) (v := ?_) rfl (by kernel_rfl) (by kernel_rfl) (by kernel_rfl) (fun _ _ _ h => h) (Or.inl ⟨by rfl, ?_⟩) (by assumption) ?_
        rotate_left 1
        · ((intro w hSw); (try dsimp only at hSw); go_simp; try (with_reducible rfl))
        try simp only [Act.put, List.setIfInBounds_toArray, List.set_cons_zero, List.set_cons_succ]
        refine wpAnyH_take (i := 21) (oi := { dst := some 64, op := Op.move (Operand.tmp 63), type := 4, pos := "more.go:20", after := #[{ on := 20, ground := Ground.data }, { on := 14, ground := Ground.chain }], guard := none }) (v := ?_) rfl (by kernel_rfl) (by kernel_rfl) (by kernel_rfl) (fun _ _ _ h => h) (Or.inl ⟨by rfl, ?_⟩) (by assumption) ?_
        rotate_left 1
        · ((intro w hSw); (try dsimp only at hSw); go_simp; try (with_reducible rfl))
        try simp only [Act.put, List.setIfInBounds_toArray, List.set_cons_zero, List.set_cons_succ]
        refine wpAnyH_take (i := 22) (oi := { dst := some 65, op := Op.load 23 (Operand.tmp 8), type := 23, pos := "more.go:20", after := #[{ on := 21, ground := Ground.guard }], guard := some (21, true) }) (v := ?_) rfl (by kernel_rfl) (by kernel_rfl) (by kernel_rfl) (fun _ _ _ h => h) (Or.inl ⟨by rfl, ?_⟩) (by assumption) ?_
        rotate_left 1
        · ((intro w hSw); (try dsimp only at hSw); go_simp; try (with_reducible rfl))
        try simp only [Act.put, List.setIfInBounds_toArray, List.set_cons_zero, List.set_cons_succ]
        refine wpAnyH_take (i := 23) (oi := { dst := some 66, op := Op.move (Operand.tmp 2), type := 3, pos := "more.go:20", after := #[{ on := 21, ground := Ground.guard }], guard := some (21, true) }) (v := ?_) rfl (by kernel_rfl) (by kernel_rfl) (by kernel_rfl) (fun _ _ _ h => h) (Or.inl ⟨by rfl, ?_⟩) (by assumption) ?_
        rotate_left 1
        · ((intro w hSw); (try dsimp only at hSw); go_simp; try (with_reducible rfl))
        try simp only [Act.put, List.setIfInBounds_toArray, List.set_cons_zero, List.set_cons_succ]
        refine wpAnyH_take (i := 25) (oi := { dst := some 68, op := Op.load 23 (Operand.tmp 3), type := 23, pos := "more.go:20", after := #[{ on := 21, ground := Ground.guard }], guard := some (21, true) }) (v := ?_) rfl (by kernel_rfl) (by kernel_rfl) (by kernel_rfl) (fun _ _ _ h => h) (Or.inl ⟨by rfl, ?_⟩) (by assumption) ?_
        rotate_left 1
        · ((intro w hSw); (try dsimp only at hSw); go_simp; try (with_reducible rfl))
        try simp only [Act.put, List.setIfInBounds_toArray, List.set_cons_zero, List.set_cons_succ]
        refine wpAnyH_take (i := 26) (oi := { dst := some 69, op := Op.move (Operand.tmp 9), type := 3, pos := "more.go:20", after := #[{ on := 21, ground := Ground.guard }], guard := some (21, true) }) (v := ?_) rfl (by kernel_rfl) (by kernel_rfl) (by kernel_rfl) (fun _ _ _ h => h) (Or.inl ⟨by rfl, ?_⟩) (by assumption) ?_
        rotate_left 1
        · ((intro w hSw); (try dsimp only at hSw); go_simp; try (with_reducible rfl))
        try simp only [Act.put, List.setIfInBounds_toArray, List.set_cons_zero, List.set_cons_succ]
        refine wpAnyH_ready (rs := [24]) (by kernel_rfl) (by simp) ?_
        refine AllReadyH.cons (o := { dst := some 67, op := Op.call { callee := Callee.value (Operand.func 19), args := #[Operand.tmp 65, Operand.tmp 66], argTypes := #[23, 3] }, type := 23, pos := "more.go:20", after := #[{ on := 22, ground := Ground.data }, { on := 23, ground := Ground.data }, { on := 21, ground := Ground.chain }, { on := 21, ground := Ground.guard }], guard := some (21, true) }) rfl (fun K hK => ?_) ?_
        rotate_left 1
        · exact AllReadyH.nil
        go_simp
        (go_at_call 19; with_reducible refine (HA.out _).mono ?_; rintro e w5 ⟨rfl, hb5⟩; replace gX := blk_keep hb5 (blk_drew gX); replace g0 := blk_keep hb5 (blk_drew g0); obtain ⟨x50, x51, _, _, _⟩ := box2 gX; obtain ⟨f50, f51, _, _, _⟩ := box2 g0; (first | (replace hw0 := hw0.trans (hb5.mono hw0.size)) | (replace hw0 := hw0.drew; replace hw0 := hw0.trans (hb5.mono hw0.size))))
        refine hK.out _ _ ?_ (fun hHeld => ?_)
        · ((try dsimp only); first | exact ⟨x60, x61, f60, f61⟩ | exact ⟨x50, x51, f50, f51⟩ | exact ⟨xc0, xc1, fc0, fc1⟩)
        clear hK K
        try simp only [Act.put, List.setIfInBounds_toArray, List.set_cons_zero, List.set_cons_succ]
        refine wpAnyH_ready (rs := [27]) (by kernel_rfl) (by simp) ?_
        refine AllReadyH.cons (o := { dst := some 70, op := Op.call { callee := Callee.value (Operand.func 19), args := #[Operand.tmp 68, Operand.tmp 69], argTypes := #[23, 3] }, type := 23, pos := "more.go:20", after := #[{ on := 25, ground := Ground.data }, { on := 26, ground := Ground.data }, { on := 24, ground := Ground.chain }, { on := 21, ground := Ground.guard }], guard := some (21, true) }) rfl (fun K hK => ?_) ?_
        rotate_left 1
        · exact AllReadyH.nil
        go_simp
        (go_at_call 19; with_reducible refine (HB.out _).mono ?_; rintro e w6 ⟨rfl, hb6⟩; replace gX := blk_keep hb6 (blk_drew gX); replace g0 := blk_keep hb6 (blk_drew g0); obtain ⟨x60, x61, _, _, _⟩ := box2 gX; obtain ⟨f60, f61, _, _, _⟩ := box2 g0; (first | (replace hw0 := hw0.trans (hb6.mono hw0.size)) | (replace hw0 := hw0.drew; replace hw0 := hw0.trans (hb6.mono hw0.size))))
        refine hK.out _ _ ?_ (fun hHeld => ?_)
        · ((try dsimp only); first | exact ⟨x60, x61, f60, f61⟩ | exact ⟨x50, x51, f50, f51⟩ | exact ⟨xc0, xc1, fc0, fc1⟩)
        clear hK K
        try simp only [Act.put, List.setIfInBounds_toArray, List.set_cons_zero, List.set_cons_succ]
        refine wpAnyH_take (i := 28) (oi := { dst := some 71, op := Op.binOp BinOp.eql 23 (Operand.tmp 67) (Operand.tmp 70) 23, type := 4, pos := "more.go:20", after := #[{ on := 24, ground := Ground.data }, { on := 27, ground := Ground.data }, { on := 21, ground := Ground.guard }], guard := some (21, true) }) (v := ?_) rfl (by kernel_rfl) (by kernel_rfl) (by kernel_rfl) (fun _ _ _ h => h) (Or.inl ⟨by rfl, ?_⟩) (by assumption) ?_
        rotate_left 1
        · ((intro w hSw); (try dsimp only at hSw); go_simp; try (with_reducible rfl))
        try simp only [Act.put, List.setIfInBounds_toArray, List.set_cons_zero, List.set_cons_succ]
        refine wpAnyH_take (i := 29) (oi := { dst := some 72, op := Op.pick (Operand.tmp 64) (Operand.tmp 71) (Operand.const (Value.bool false)), type := 4, pos := "more.go:20", after := #[{ on := 21, ground := Ground.data }, { on := 28, ground := Ground.data }], guard := none }) (v := ?_) rfl (by kernel_rfl) (by kernel_rfl) (by kernel_rfl) (fun _ _ _ h => h) (Or.inl ⟨by rfl, ?_⟩) (by assumption) ?_
        rotate_left 1
        · ((intro w hSw); (try dsimp only at hSw); go_simp; try (with_reducible rfl))
        try simp only [Act.put, List.setIfInBounds_toArray, List.set_cons_zero, List.set_cons_succ]
        refine wpAnyH_take (i := 30) (oi := { dst := some 6, op := Op.assign (Operand.tmp 72), type := 4, pos := "more.go:20", after := #[{ on := 29, ground := Ground.data }, { on := 27, ground := Ground.chain }, { on := 0, ground := Ground.phase }, { on := 1, ground := Ground.phase }, { on := 2, ground := Ground.phase }, { on := 3, ground := Ground.phase }, { on := 4, ground := Ground.phase }, { on := 5, ground := Ground.phase }, { on := 6, ground := Ground.phase }, { on := 7, ground := Ground.phase }, { on := 8, ground := Ground.phase }, { on := 9, ground := Ground.phase }, { on := 10, ground := Ground.phase }, { on := 11, ground := Ground.phase }, { on := 12, ground := Ground.phase }, { on := 13, ground := Ground.phase }, { on := 14, ground := Ground.phase }, { on := 15, ground := Ground.phase }, { on := 16, ground := Ground.phase }, { on := 17, ground := Ground.phase }, { on := 18, ground := Ground.phase }, { on := 19, ground := Ground.phase }, { on := 20, ground := Ground.phase }, { on := 21, ground := Ground.phase }, { on := 22, ground := Ground.phase }, { on := 23, ground := Ground.phase }, { on := 24, ground := Ground.phase }, { on := 25, ground := Ground.phase }, { on := 26, ground := Ground.phase }, { on := 27, ground := Ground.phase }, { on := 28, ground := Ground.phase }, { on := 29, ground := Ground.phase }], guard := none }) (v := ?_) rfl (by kernel_rfl) (by kernel_rfl) (by kernel_rfl) (fun _ _ _ h => h) (Or.inl ⟨by rfl, ?_⟩) (by assumption) ?_
        rotate_left 1
        · ((intro w hSw); (try dsimp only at hSw); go_simp; try (with_reducible rfl))
        try simp only [Act.put, List.setIfInBounds_toArray, List.set_cons_zero, List.set_cons_succ]
        refine wpAnyH_done (by kernel_rfl) ?_ _
        go_wp2
        go_ret
        exact ⟨rfl, hw0⟩
      · rw [show max s r = s by omega] at HB
        go_enter Try.func8, Try.ntmps8
        go_wp2_with (first
          | (go_at_call 15; refine (voteAwake_any _).mono ?_; rintro e w1 ⟨rfl, hb1⟩; have hw0 := below1 w (.cells #[.int .i64 t, .int .i64 v] 23); have g0 := blk_new w (.cells #[.int .i64 t, .int .i64 v] 23); replace hw0 := hw0.trans (hb1.mono hw0.size); replace g0 := blk_keep hb1 g0; obtain ⟨hc0, hc1, _, _, hlt0⟩ := box2 g0)
          | (go_at_call 22; refine (HM.out _).mono ?_; rintro e w2 ⟨rfl, hb2⟩; replace hw0 := hw0.trans (hb2.mono hw0.size); replace g0 := blk_keep hb2 g0; obtain ⟨hc0, hc1, _, _, hlt0⟩ := box2 g0)
          | (go_at_call 19; refine (HS.out _).mono ?_; rintro e w3 ⟨rfl, hb3⟩; replace hw0 := hw0.trans (hb3.mono hw0.size); replace g0 := blk_keep hb3 g0; obtain ⟨hc0, hc1, _, _, hlt0⟩ := box2 g0; have gX := blk_new w3 (.cells #[.int .i64 t, .int .i64 v] 23); replace g0 := blk_alloc g0 (.cells #[.int .i64 t, .int .i64 v] 23); replace hw0 := hw0.alloc hw0.size (.cells #[.int .i64 t, .int .i64 v] 23)))
        obtain ⟨xc0, xc1, _, _, xlt⟩ := box2 gX
        have fc0 := blk_cell g0 0
        have fc1 := blk_cell g0 1
        refine wp_region_held_drew (S := (fun W => W.cell? ⟨w3.heap.size, 0, none⟩ = some (.int .i64 t) ∧ W.cell? ⟨w3.heap.size, 1, none⟩ = some (.int .i64 v) ∧ W.cell? ⟨w.heap.size, 0, none⟩ = some (.int .i64 t) ∧ W.cell? ⟨w.heap.size, 1, none⟩ = some (.int .i64 v))) (by kernel_rfl) ?_ (fun hHeld => ?_)
        · ((try dsimp only); first | exact ⟨x60, x61, f60, f61⟩ | exact ⟨x50, x51, f50, f51⟩ | exact ⟨xc0, xc1, fc0, fc1⟩)
        refine wpAnyH_take (i := 0) (oi := { dst := some 43, op := Op.move (Operand.tmp 1), type := 3, pos := "more.go:20", after := #[], guard := none }) (v := ?_) rfl (by kernel_rfl) (by kernel_rfl) (by kernel_rfl) (fun _ _ _ h => h) (Or.inl ⟨by rfl, ?_⟩) (by assumption) ?_
        rotate_left 1
        · ((intro w hSw); (try dsimp only at hSw); go_simp; try (with_reducible rfl))
        try simp only [Act.put, List.setIfInBounds_toArray, List.set_cons_zero, List.set_cons_succ]
        refine wpAnyH_take (i := 1) (oi := { dst := some 44, op := Op.fieldAddr 23 (Operand.tmp 3) 0, type := 0, pos := "more.go:20", after := #[], guard := none }) (v := ?_) rfl (by kernel_rfl) (by kernel_rfl) (by kernel_rfl) (fun _ _ _ h => h) (Or.inl ⟨by rfl, ?_⟩) (by assumption) ?_
        rotate_left 1
        · ((intro w hSw); (try dsimp only at hSw); go_simp; try (with_reducible rfl))
        try simp only [Act.put, List.setIfInBounds_toArray, List.set_cons_zero, List.set_cons_succ]
        refine wpAnyH_take (i := 2) (oi := { dst := some 45, op := Op.load 3 (Operand.tmp 44), type := 3, pos := "more.go:20", after := #[{ on := 1, ground := Ground.data }], guard := none }) (v := ?_) rfl (by kernel_rfl) (by kernel_rfl) (by kernel_rfl) (fun _ _ _ h => h) (Or.inl ⟨by rfl, ?_⟩) (by assumption) ?_
        rotate_left 1
        · ((intro w hSw); (try dsimp only at hSw); go_simp; try (with_reducible rfl))
        try simp only [Act.put, List.setIfInBounds_toArray, List.set_cons_zero, List.set_cons_succ]
        refine wpAnyH_take (i := 3) (oi := { dst := some 46, op := Op.binOp BinOp.leq 3 (Operand.tmp 43) (Operand.tmp 45) 3, type := 4, pos := "more.go:20", after := #[{ on := 0, ground := Ground.data }, { on := 2, ground := Ground.data }], guard := none }) (v := ?_) rfl (by kernel_rfl) (by kernel_rfl) (by kernel_rfl) (fun _ _ _ h => h) (Or.inl ⟨by rfl, ?_⟩) (by assumption) ?_
        rotate_left 1
        · ((intro w hSw); (try dsimp only at hSw); go_simp; try (with_reducible rfl))
        try simp only [Act.put, List.setIfInBounds_toArray, List.set_cons_zero, List.set_cons_succ]
        refine wpAnyH_take (i := 4) (oi := { dst := some 47, op := Op.move (Operand.tmp 46), type := 4, pos := "more.go:20", after := #[{ on := 3, ground := Ground.data }], guard := none }) (v := ?_) rfl (by kernel_rfl) (by kernel_rfl) (by kernel_rfl) (fun _ _ _ h => h) (Or.inl ⟨by rfl, ?_⟩) (by assumption) ?_
        rotate_left 1
        · ((intro w hSw); (try dsimp only at hSw); go_simp; try (with_reducible rfl))
        try simp only [Act.put, List.setIfInBounds_toArray, List.set_cons_zero, List.set_cons_succ]
        refine wpAnyH_take (i := 5) (oi := { dst := some 48, op := Op.load 23 (Operand.tmp 8), type := 23, pos := "more.go:20", after := #[{ on := 4, ground := Ground.guard }], guard := some (4, true) }) (v := ?_) rfl (by kernel_rfl) (by kernel_rfl) (by kernel_rfl) (fun _ _ _ h => h) (Or.inl ⟨by rfl, ?_⟩) (by assumption) ?_
        rotate_left 1
        · ((intro w hSw); (try dsimp only at hSw); go_simp; try (with_reducible rfl))
        try simp only [Act.put, List.setIfInBounds_toArray, List.set_cons_zero, List.set_cons_succ]
        refine wpAnyH_take (i := 6) (oi := { dst := some 49, op := Op.load 23 (Operand.tmp 3), type := 23, pos := "more.go:20", after := #[{ on := 4, ground := Ground.guard }], guard := some (4, true) }) (v := ?_) rfl (by kernel_rfl) (by kernel_rfl) (by kernel_rfl) (fun _ _ _ h => h) (Or.inl ⟨by rfl, ?_⟩) (by assumption) ?_
        rotate_left 1
        · ((intro w hSw); (try dsimp only at hSw); go_simp; try (with_reducible rfl))
        try simp only [Act.put, List.setIfInBounds_toArray, List.set_cons_zero, List.set_cons_succ]
        refine wpAnyH_take (i := 7) (oi := { dst := some 50, op := Op.binOp BinOp.eql 23 (Operand.tmp 48) (Operand.tmp 49) 23, type := 4, pos := "more.go:20", after := #[{ on := 5, ground := Ground.data }, { on := 6, ground := Ground.data }, { on := 4, ground := Ground.guard }], guard := some (4, true) }) (v := ?_) rfl (by kernel_rfl) (by kernel_rfl) (by kernel_rfl) (fun _ _ _ h => h) (Or.inl ⟨by rfl, ?_⟩) (by assumption) ?_
        rotate_left 1
        · ((intro w hSw); (try dsimp only at hSw); go_simp; try (with_reducible rfl))
        try simp only [Act.put, List.setIfInBounds_toArray, List.set_cons_zero, List.set_cons_succ]
        refine wpAnyH_take (i := 8) (oi := { dst := some 51, op := Op.pick (Operand.tmp 47) (Operand.tmp 50) (Operand.const (Value.bool false)), type := 4, pos := "more.go:20", after := #[{ on := 4, ground := Ground.data }, { on := 7, ground := Ground.data }], guard := none }) (v := ?_) rfl (by kernel_rfl) (by kernel_rfl) (by kernel_rfl) (fun _ _ _ h => h) (Or.inl ⟨by rfl, ?_⟩) (by assumption) ?_
        rotate_left 1
        · ((intro w hSw); (try dsimp only at hSw); go_simp; try (with_reducible rfl))
        try simp only [Act.put, List.setIfInBounds_toArray, List.set_cons_zero, List.set_cons_succ]
        refine wpAnyH_take (i := 9) (oi := { dst := some 52, op := Op.move (Operand.tmp 51), type := 4, pos := "more.go:20", after := #[{ on := 8, ground := Ground.data }, { on := 4, ground := Ground.chain }], guard := none }) (v := ?_) rfl (by kernel_rfl) (by kernel_rfl) (by kernel_rfl) (fun _ _ _ h => h) (Or.inl ⟨by rfl, ?_⟩) (by assumption) ?_
        rotate_left 1
        · ((intro w hSw); (try dsimp only at hSw); go_simp; try (with_reducible rfl))
        try simp only [Act.put, List.setIfInBounds_toArray, List.set_cons_zero, List.set_cons_succ]
        refine wpAnyH_take (i := 10) (oi := { dst := some 53, op := Op.move (Operand.tmp 1), type := 3, pos := "more.go:20", after := #[{ on := 9, ground := Ground.guard }], guard := some (9, false) }) (v := undef) rfl (by kernel_rfl) (by kernel_rfl) (by kernel_rfl) (fun _ _ _ h => h) (Or.inr ⟨by rfl, rfl⟩) (by assumption) ?_
        try simp only [Act.put, List.setIfInBounds_toArray, List.set_cons_zero, List.set_cons_succ]
        refine wpAnyH_take (i := 11) (oi := { dst := some 54, op := Op.fieldAddr 23 (Operand.tmp 3) 0, type := 0, pos := "more.go:20", after := #[{ on := 9, ground := Ground.guard }], guard := some (9, false) }) (v := undef) rfl (by kernel_rfl) (by kernel_rfl) (by kernel_rfl) (fun _ _ _ h => h) (Or.inr ⟨by rfl, rfl⟩) (by assumption) ?_
        try simp only [Act.put, List.setIfInBounds_toArray, List.set_cons_zero, List.set_cons_succ]
        refine wpAnyH_take (i := 12) (oi := { dst := some 55, op := Op.load 3 (Operand.tmp 54), type := 3, pos := "more.go:20", after := #[{ on := 11, ground := Ground.data }, { on := 9, ground := Ground.guard }], guard := some (9, false) }) (v := undef) rfl (by kernel_rfl) (by kernel_rfl) (by kernel_rfl) (fun _ _ _ h => h) (Or.inr ⟨by rfl, rfl⟩) (by assumption) ?_
        try simp only [Act.put, List.setIfInBounds_toArray, List.set_cons_zero, List.set_cons_succ]
        refine wpAnyH_take (i := 13) (oi := { dst := some 56, op := Op.binOp BinOp.gtr 3 (Operand.tmp 53) (Operand.tmp 55) 3, type := 4, pos := "more.go:20", after := #[{ on := 10, ground := Ground.data }, { on := 12, ground := Ground.data }, { on := 9, ground := Ground.guard }], guard := some (9, false) }) (v := undef) rfl (by kernel_rfl) (by kernel_rfl) (by kernel_rfl) (fun _ _ _ h => h) (Or.inr ⟨by rfl, rfl⟩) (by assumption) ?_
        try simp only [Act.put, List.setIfInBounds_toArray, List.set_cons_zero, List.set_cons_succ]
        refine wpAnyH_take (i := 14) (oi := { dst := some 57, op := Op.move (Operand.tmp 56), type := 4, pos := "more.go:20", after := #[{ on := 13, ground := Ground.data }, { on := 9, ground := Ground.chain }, { on := 9, ground := Ground.guard }], guard := some (9, false) }) (v := undef) rfl (by kernel_rfl) (by kernel_rfl) (by kernel_rfl) (fun _ _ _ h => h) (Or.inr ⟨by rfl, rfl⟩) (by assumption) ?_
        try simp only [Act.put, List.setIfInBounds_toArray, List.set_cons_zero, List.set_cons_succ]
        refine wpAnyH_take (i := 15) (oi := { dst := some 58, op := Op.load 23 (Operand.tmp 8), type := 23, pos := "more.go:20", after := #[{ on := 14, ground := Ground.guard }], guard := some (14, true) }) (v := undef) rfl (by kernel_rfl) (by kernel_rfl) (by kernel_rfl) (fun _ _ _ h => h) (Or.inr ⟨by rfl, rfl⟩) (by assumption) ?_
        try simp only [Act.put, List.setIfInBounds_toArray, List.set_cons_zero, List.set_cons_succ]
        refine wpAnyH_take (i := 16) (oi := { dst := some 59, op := Op.move (Operand.tmp 1), type := 3, pos := "more.go:20", after := #[{ on := 14, ground := Ground.guard }], guard := some (14, true) }) (v := undef) rfl (by kernel_rfl) (by kernel_rfl) (by kernel_rfl) (fun _ _ _ h => h) (Or.inr ⟨by rfl, rfl⟩) (by assumption) ?_
        try simp only [Act.put, List.setIfInBounds_toArray, List.set_cons_zero, List.set_cons_succ]
        refine wpAnyH_take (i := 17) (oi := { dst := some 60, op := Op.build 23 #[(0, Operand.tmp 59)], type := 23, pos := "more.go:20", after := #[{ on := 16, ground := Ground.data }, { on := 14, ground := Ground.guard }], guard := some (14, true) }) (v := undef) rfl (by kernel_rfl) (by kernel_rfl) (by kernel_rfl) (fun _ _ _ h => h) (Or.inr ⟨by rfl, rfl⟩) (by assumption) ?_
        try simp only [Act.put, List.setIfInBounds_toArray, List.set_cons_zero, List.set_cons_succ]
        refine wpAnyH_take (i := 18) (oi := { dst := some 61, op := Op.binOp BinOp.eql 23 (Operand.tmp 58) (Operand.tmp 60) 23, type := 4, pos := "more.go:20", after := #[{ on := 15, ground := Ground.data }, { on := 17, ground := Ground.data }, { on := 14, ground := Ground.guard }], guard := some (14, true) }) (v := undef) rfl (by kernel_rfl) (by kernel_rfl) (by kernel_rfl) (fun _ _ _ h => h) (Or.inr ⟨by rfl, rfl⟩) (by assumption) ?_
        try simp only [Act.put, List.setIfInBounds_toArray, List.set_cons_zero, List.set_cons_succ]
        refine wpAnyH_take (i := 19) (oi := { dst := some 62, op := Op.pick (Operand.tmp 57) (Operand.tmp 61) (Operand.const (Value.bool false)), type := 4, pos := "more.go:20", after := #[{ on := 14, ground := Ground.data }, { on := 18, ground := Ground.data }, { on := 9, ground := Ground.guard }], guard := some (9, false) }) (v := undef) rfl (by kernel_rfl) (by kernel_rfl) (by kernel_rfl) (fun _ _ _ h => h) (Or.inr ⟨by rfl, rfl⟩) (by assumption) ?_
        try simp only [Act.put, List.setIfInBounds_toArray, List.set_cons_zero, List.set_cons_succ]
        refine wpAnyH_take (i := 20) (oi := { dst := some 63, op := Op.pick (Operand.tmp 52) (Operand.const (Value.bool true)) (Operand.tmp 62), type := 4, pos := "more.go:20", after := #[{ on := 9, ground := Ground.data }, { on := 19, ground := Ground.data }], guard := none }) (v := ?_) rfl (by kernel_rfl) (by kernel_rfl) (by kernel_rfl) (fun _ _ _ h => h) (Or.inl ⟨by rfl, ?_⟩) (by assumption) ?_
        rotate_left 1
        · ((intro w hSw); (try dsimp only at hSw); go_simp; try (with_reducible rfl))
        try simp only [Act.put, List.setIfInBounds_toArray, List.set_cons_zero, List.set_cons_succ]
        refine wpAnyH_take (i := 21) (oi := { dst := some 64, op := Op.move (Operand.tmp 63), type := 4, pos := "more.go:20", after := #[{ on := 20, ground := Ground.data }, { on := 14, ground := Ground.chain }], guard := none }) (v := ?_) rfl (by kernel_rfl) (by kernel_rfl) (by kernel_rfl) (fun _ _ _ h => h) (Or.inl ⟨by rfl, ?_⟩) (by assumption) ?_
        rotate_left 1
        · ((intro w hSw); (try dsimp only at hSw); go_simp; try (with_reducible rfl))
        try simp only [Act.put, List.setIfInBounds_toArray, List.set_cons_zero, List.set_cons_succ]
        refine wpAnyH_take (i := 22) (oi := { dst := some 65, op := Op.load 23 (Operand.tmp 8), type := 23, pos := "more.go:20", after := #[{ on := 21, ground := Ground.guard }], guard := some (21, true) }) (v := ?_) rfl (by kernel_rfl) (by kernel_rfl) (by kernel_rfl) (fun _ _ _ h => h) (Or.inl ⟨by rfl, ?_⟩) (by assumption) ?_
        rotate_left 1
        · ((intro w hSw); (try dsimp only at hSw); go_simp; try (with_reducible rfl))
        try simp only [Act.put, List.setIfInBounds_toArray, List.set_cons_zero, List.set_cons_succ]
        refine wpAnyH_take (i := 23) (oi := { dst := some 66, op := Op.move (Operand.tmp 2), type := 3, pos := "more.go:20", after := #[{ on := 21, ground := Ground.guard }], guard := some (21, true) }) (v := ?_) rfl (by kernel_rfl) (by kernel_rfl) (by kernel_rfl) (fun _ _ _ h => h) (Or.inl ⟨by rfl, ?_⟩) (by assumption) ?_
        rotate_left 1
        · ((intro w hSw); (try dsimp only at hSw); go_simp; try (with_reducible rfl))
        try simp only [Act.put, List.setIfInBounds_toArray, List.set_cons_zero, List.set_cons_succ]
        refine wpAnyH_take (i := 25) (oi := { dst := some 68, op := Op.load 23 (Operand.tmp 3), type := 23, pos := "more.go:20", after := #[{ on := 21, ground := Ground.guard }], guard := some (21, true) }) (v := ?_) rfl (by kernel_rfl) (by kernel_rfl) (by kernel_rfl) (fun _ _ _ h => h) (Or.inl ⟨by rfl, ?_⟩) (by assumption) ?_
        rotate_left 1
        · ((intro w hSw); (try dsimp only at hSw); go_simp; try (with_reducible rfl))
        try simp only [Act.put, List.setIfInBounds_toArray, List.set_cons_zero, List.set_cons_succ]
        refine wpAnyH_take (i := 26) (oi := { dst := some 69, op := Op.move (Operand.tmp 9), type := 3, pos := "more.go:20", after := #[{ on := 21, ground := Ground.guard }], guard := some (21, true) }) (v := ?_) rfl (by kernel_rfl) (by kernel_rfl) (by kernel_rfl) (fun _ _ _ h => h) (Or.inl ⟨by rfl, ?_⟩) (by assumption) ?_
        rotate_left 1
        · ((intro w hSw); (try dsimp only at hSw); go_simp; try (with_reducible rfl))
        try simp only [Act.put, List.setIfInBounds_toArray, List.set_cons_zero, List.set_cons_succ]
        refine wpAnyH_ready (rs := [24]) (by kernel_rfl) (by simp) ?_
        refine AllReadyH.cons (o := { dst := some 67, op := Op.call { callee := Callee.value (Operand.func 19), args := #[Operand.tmp 65, Operand.tmp 66], argTypes := #[23, 3] }, type := 23, pos := "more.go:20", after := #[{ on := 22, ground := Ground.data }, { on := 23, ground := Ground.data }, { on := 21, ground := Ground.chain }, { on := 21, ground := Ground.guard }], guard := some (21, true) }) rfl (fun K hK => ?_) ?_
        rotate_left 1
        · exact AllReadyH.nil
        go_simp
        (go_at_call 19; with_reducible refine (HA.out _).mono ?_; rintro e w5 ⟨rfl, hb5⟩; replace gX := blk_keep hb5 (blk_drew gX); replace g0 := blk_keep hb5 (blk_drew g0); obtain ⟨x50, x51, _, _, _⟩ := box2 gX; obtain ⟨f50, f51, _, _, _⟩ := box2 g0; (first | (replace hw0 := hw0.trans (hb5.mono hw0.size)) | (replace hw0 := hw0.drew; replace hw0 := hw0.trans (hb5.mono hw0.size))))
        refine hK.out _ _ ?_ (fun hHeld => ?_)
        · ((try dsimp only); first | exact ⟨x60, x61, f60, f61⟩ | exact ⟨x50, x51, f50, f51⟩ | exact ⟨xc0, xc1, fc0, fc1⟩)
        clear hK K
        try simp only [Act.put, List.setIfInBounds_toArray, List.set_cons_zero, List.set_cons_succ]
        refine wpAnyH_ready (rs := [27]) (by kernel_rfl) (by simp) ?_
        refine AllReadyH.cons (o := { dst := some 70, op := Op.call { callee := Callee.value (Operand.func 19), args := #[Operand.tmp 68, Operand.tmp 69], argTypes := #[23, 3] }, type := 23, pos := "more.go:20", after := #[{ on := 25, ground := Ground.data }, { on := 26, ground := Ground.data }, { on := 24, ground := Ground.chain }, { on := 21, ground := Ground.guard }], guard := some (21, true) }) rfl (fun K hK => ?_) ?_
        rotate_left 1
        · exact AllReadyH.nil
        go_simp
        (go_at_call 19; with_reducible refine (HB.out _).mono ?_; rintro e w6 ⟨rfl, hb6⟩; replace gX := blk_keep hb6 (blk_drew gX); replace g0 := blk_keep hb6 (blk_drew g0); obtain ⟨x60, x61, _, _, _⟩ := box2 gX; obtain ⟨f60, f61, _, _, _⟩ := box2 g0; (first | (replace hw0 := hw0.trans (hb6.mono hw0.size)) | (replace hw0 := hw0.drew; replace hw0 := hw0.trans (hb6.mono hw0.size))))
        refine hK.out _ _ ?_ (fun hHeld => ?_)
        · ((try dsimp only); first | exact ⟨x60, x61, f60, f61⟩ | exact ⟨x50, x51, f50, f51⟩ | exact ⟨xc0, xc1, fc0, fc1⟩)
        clear hK K
        try simp only [Act.put, List.setIfInBounds_toArray, List.set_cons_zero, List.set_cons_succ]
        refine wpAnyH_take (i := 28) (oi := { dst := some 71, op := Op.binOp BinOp.eql 23 (Operand.tmp 67) (Operand.tmp 70) 23, type := 4, pos := "more.go:20", after := #[{ on := 24, ground := Ground.data }, { on := 27, ground := Ground.data }, { on := 21, ground := Ground.guard }], guard := some (21, true) }) (v := ?_) rfl (by kernel_rfl) (by kernel_rfl) (by kernel_rfl) (fun _ _ _ h => h) (Or.inl ⟨by rfl, ?_⟩) (by assumption) ?_
        rotate_left 1
        · ((intro w hSw); (try dsimp only at hSw); go_simp; try (with_reducible rfl))
        try simp only [Act.put, List.setIfInBounds_toArray, List.set_cons_zero, List.set_cons_succ]
        refine wpAnyH_take (i := 29) (oi := { dst := some 72, op := Op.pick (Operand.tmp 64) (Operand.tmp 71) (Operand.const (Value.bool false)), type := 4, pos := "more.go:20", after := #[{ on := 21, ground := Ground.data }, { on := 28, ground := Ground.data }], guard := none }) (v := ?_) rfl (by kernel_rfl) (by kernel_rfl) (by kernel_rfl) (fun _ _ _ h => h) (Or.inl ⟨by rfl, ?_⟩) (by assumption) ?_
        rotate_left 1
        · ((intro w hSw); (try dsimp only at hSw); go_simp; try (with_reducible rfl))
        try simp only [Act.put, List.setIfInBounds_toArray, List.set_cons_zero, List.set_cons_succ]
        refine wpAnyH_take (i := 30) (oi := { dst := some 6, op := Op.assign (Operand.tmp 72), type := 4, pos := "more.go:20", after := #[{ on := 29, ground := Ground.data }, { on := 27, ground := Ground.chain }, { on := 0, ground := Ground.phase }, { on := 1, ground := Ground.phase }, { on := 2, ground := Ground.phase }, { on := 3, ground := Ground.phase }, { on := 4, ground := Ground.phase }, { on := 5, ground := Ground.phase }, { on := 6, ground := Ground.phase }, { on := 7, ground := Ground.phase }, { on := 8, ground := Ground.phase }, { on := 9, ground := Ground.phase }, { on := 10, ground := Ground.phase }, { on := 11, ground := Ground.phase }, { on := 12, ground := Ground.phase }, { on := 13, ground := Ground.phase }, { on := 14, ground := Ground.phase }, { on := 15, ground := Ground.phase }, { on := 16, ground := Ground.phase }, { on := 17, ground := Ground.phase }, { on := 18, ground := Ground.phase }, { on := 19, ground := Ground.phase }, { on := 20, ground := Ground.phase }, { on := 21, ground := Ground.phase }, { on := 22, ground := Ground.phase }, { on := 23, ground := Ground.phase }, { on := 24, ground := Ground.phase }, { on := 25, ground := Ground.phase }, { on := 26, ground := Ground.phase }, { on := 27, ground := Ground.phase }, { on := 28, ground := Ground.phase }, { on := 29, ground := Ground.phase }], guard := none }) (v := ?_) rfl (by kernel_rfl) (by kernel_rfl) (by kernel_rfl) (fun _ _ _ h => h) (Or.inl ⟨by rfl, ?_⟩) (by assumption) ?_
        rotate_left 1
        · ((intro w hSw); (try dsimp only at hSw); go_simp; try (with_reducible rfl))
        try simp only [Act.put, List.setIfInBounds_toArray, List.set_cons_zero, List.set_cons_succ]
        refine wpAnyH_done (by kernel_rfl) ?_ _
        go_wp2
        go_ret
        exact ⟨rfl, hw0⟩
    · rw [hsv] at HS HA
      simp only at HS HA
      have hd1 : decide (s ≤ t) = false := decide_eq_false (by omega)
      have hd2 : decide (t < s) = true := decide_eq_true hs
      clear hsv hs
      by_cases hm : s < r
      · rw [show max s r = r by omega] at HB
        go_enter Try.func8, Try.ntmps8
        go_wp2_with (first
          | (go_at_call 15; refine (voteAwake_any _).mono ?_; rintro e w1 ⟨rfl, hb1⟩; have hw0 := below1 w (.cells #[.int .i64 t, .int .i64 v] 23); have g0 := blk_new w (.cells #[.int .i64 t, .int .i64 v] 23); replace hw0 := hw0.trans (hb1.mono hw0.size); replace g0 := blk_keep hb1 g0; obtain ⟨hc0, hc1, _, _, hlt0⟩ := box2 g0)
          | (go_at_call 22; refine (HM.out _).mono ?_; rintro e w2 ⟨rfl, hb2⟩; replace hw0 := hw0.trans (hb2.mono hw0.size); replace g0 := blk_keep hb2 g0; obtain ⟨hc0, hc1, _, _, hlt0⟩ := box2 g0)
          | (go_at_call 19; refine (HS.out _).mono ?_; rintro e w3 ⟨rfl, hb3⟩; replace hw0 := hw0.trans (hb3.mono hw0.size); replace g0 := blk_keep hb3 g0; obtain ⟨hc0, hc1, _, _, hlt0⟩ := box2 g0; have gX := blk_new w3 (.cells #[.int .i64 s, .int .i64 0] 23); replace g0 := blk_alloc g0 (.cells #[.int .i64 s, .int .i64 0] 23); replace hw0 := hw0.alloc hw0.size (.cells #[.int .i64 s, .int .i64 0] 23)))
        obtain ⟨xc0, xc1, _, _, xlt⟩ := box2 gX
        have fc0 := blk_cell g0 0
        have fc1 := blk_cell g0 1
        refine wp_region_held_drew (S := (fun W => W.cell? ⟨w3.heap.size, 0, none⟩ = some (.int .i64 s) ∧ W.cell? ⟨w3.heap.size, 1, none⟩ = some (.int .i64 0) ∧ W.cell? ⟨w.heap.size, 0, none⟩ = some (.int .i64 t) ∧ W.cell? ⟨w.heap.size, 1, none⟩ = some (.int .i64 v))) (by kernel_rfl) ?_ (fun hHeld => ?_)
        · ((try dsimp only); first | exact ⟨x60, x61, f60, f61⟩ | exact ⟨x50, x51, f50, f51⟩ | exact ⟨xc0, xc1, fc0, fc1⟩)
        refine wpAnyH_take (i := 0) (oi := { dst := some 43, op := Op.move (Operand.tmp 1), type := 3, pos := "more.go:20", after := #[], guard := none }) (v := ?_) rfl (by kernel_rfl) (by kernel_rfl) (by kernel_rfl) (fun _ _ _ h => h) (Or.inl ⟨by rfl, ?_⟩) (by assumption) ?_
        rotate_left 1
        · ((intro w hSw); (try dsimp only at hSw); go_simp; try (with_reducible rfl))
        try simp only [Act.put, List.setIfInBounds_toArray, List.set_cons_zero, List.set_cons_succ]
        refine wpAnyH_take (i := 1) (oi := { dst := some 44, op := Op.fieldAddr 23 (Operand.tmp 3) 0, type := 0, pos := "more.go:20", after := #[], guard := none }) (v := ?_) rfl (by kernel_rfl) (by kernel_rfl) (by kernel_rfl) (fun _ _ _ h => h) (Or.inl ⟨by rfl, ?_⟩) (by assumption) ?_
        rotate_left 1
        · ((intro w hSw); (try dsimp only at hSw); go_simp; try (with_reducible rfl))
        try simp only [Act.put, List.setIfInBounds_toArray, List.set_cons_zero, List.set_cons_succ]
        refine wpAnyH_take (i := 2) (oi := { dst := some 45, op := Op.load 3 (Operand.tmp 44), type := 3, pos := "more.go:20", after := #[{ on := 1, ground := Ground.data }], guard := none }) (v := ?_) rfl (by kernel_rfl) (by kernel_rfl) (by kernel_rfl) (fun _ _ _ h => h) (Or.inl ⟨by rfl, ?_⟩) (by assumption) ?_
        rotate_left 1
        · ((intro w hSw); (try dsimp only at hSw); go_simp; try (with_reducible rfl))
        try simp only [Act.put, List.setIfInBounds_toArray, List.set_cons_zero, List.set_cons_succ]
        refine wpAnyH_take (i := 3) (oi := { dst := some 46, op := Op.binOp BinOp.leq 3 (Operand.tmp 43) (Operand.tmp 45) 3, type := 4, pos := "more.go:20", after := #[{ on := 0, ground := Ground.data }, { on := 2, ground := Ground.data }], guard := none }) (v := ?_) rfl (by kernel_rfl) (by kernel_rfl) (by kernel_rfl) (fun _ _ _ h => h) (Or.inl ⟨by rfl, ?_⟩) (by assumption) ?_
        rotate_left 1
        · ((intro w hSw); (try dsimp only at hSw); go_simp; try (with_reducible rfl))
        try simp only [Act.put, List.setIfInBounds_toArray, List.set_cons_zero, List.set_cons_succ]
        refine wpAnyH_take (i := 4) (oi := { dst := some 47, op := Op.move (Operand.tmp 46), type := 4, pos := "more.go:20", after := #[{ on := 3, ground := Ground.data }], guard := none }) (v := ?_) rfl (by kernel_rfl) (by kernel_rfl) (by kernel_rfl) (fun _ _ _ h => h) (Or.inl ⟨by rfl, ?_⟩) (by assumption) ?_
        rotate_left 1
        · ((intro w hSw); (try dsimp only at hSw); go_simp; try (with_reducible rfl))
        try simp only [Act.put, List.setIfInBounds_toArray, List.set_cons_zero, List.set_cons_succ]
        refine wpAnyH_take (i := 5) (oi := { dst := some 48, op := Op.load 23 (Operand.tmp 8), type := 23, pos := "more.go:20", after := #[{ on := 4, ground := Ground.guard }], guard := some (4, true) }) (v := undef) rfl (by kernel_rfl) (by kernel_rfl) (by kernel_rfl) (fun _ _ _ h => h) (Or.inr ⟨by rfl, rfl⟩) (by assumption) ?_
        try simp only [Act.put, List.setIfInBounds_toArray, List.set_cons_zero, List.set_cons_succ]
        refine wpAnyH_take (i := 6) (oi := { dst := some 49, op := Op.load 23 (Operand.tmp 3), type := 23, pos := "more.go:20", after := #[{ on := 4, ground := Ground.guard }], guard := some (4, true) }) (v := undef) rfl (by kernel_rfl) (by kernel_rfl) (by kernel_rfl) (fun _ _ _ h => h) (Or.inr ⟨by rfl, rfl⟩) (by assumption) ?_
        try simp only [Act.put, List.setIfInBounds_toArray, List.set_cons_zero, List.set_cons_succ]
        refine wpAnyH_take (i := 7) (oi := { dst := some 50, op := Op.binOp BinOp.eql 23 (Operand.tmp 48) (Operand.tmp 49) 23, type := 4, pos := "more.go:20", after := #[{ on := 5, ground := Ground.data }, { on := 6, ground := Ground.data }, { on := 4, ground := Ground.guard }], guard := some (4, true) }) (v := undef) rfl (by kernel_rfl) (by kernel_rfl) (by kernel_rfl) (fun _ _ _ h => h) (Or.inr ⟨by rfl, rfl⟩) (by assumption) ?_
        try simp only [Act.put, List.setIfInBounds_toArray, List.set_cons_zero, List.set_cons_succ]
        refine wpAnyH_take (i := 8) (oi := { dst := some 51, op := Op.pick (Operand.tmp 47) (Operand.tmp 50) (Operand.const (Value.bool false)), type := 4, pos := "more.go:20", after := #[{ on := 4, ground := Ground.data }, { on := 7, ground := Ground.data }], guard := none }) (v := ?_) rfl (by kernel_rfl) (by kernel_rfl) (by kernel_rfl) (fun _ _ _ h => h) (Or.inl ⟨by rfl, ?_⟩) (by assumption) ?_
        rotate_left 1
        · ((intro w hSw); (try dsimp only at hSw); go_simp; try (with_reducible rfl))
        try simp only [Act.put, List.setIfInBounds_toArray, List.set_cons_zero, List.set_cons_succ]
        refine wpAnyH_take (i := 9) (oi := { dst := some 52, op := Op.move (Operand.tmp 51), type := 4, pos := "more.go:20", after := #[{ on := 8, ground := Ground.data }, { on := 4, ground := Ground.chain }], guard := none }) (v := ?_) rfl (by kernel_rfl) (by kernel_rfl) (by kernel_rfl) (fun _ _ _ h => h) (Or.inl ⟨by rfl, ?_⟩) (by assumption) ?_
        rotate_left 1
        · ((intro w hSw); (try dsimp only at hSw); go_simp; try (with_reducible rfl))
        try simp only [Act.put, List.setIfInBounds_toArray, List.set_cons_zero, List.set_cons_succ]
        refine wpAnyH_take (i := 10) (oi := { dst := some 53, op := Op.move (Operand.tmp 1), type := 3, pos := "more.go:20", after := #[{ on := 9, ground := Ground.guard }], guard := some (9, false) }) (v := ?_) rfl (by kernel_rfl) (by kernel_rfl) (by kernel_rfl) (fun _ _ _ h => h) (Or.inl ⟨by rfl, ?_⟩) (by assumption) ?_
        rotate_left 1
        · ((intro w hSw); (try dsimp only at hSw); go_simp; try (with_reducible rfl))
        try simp only [Act.put, List.setIfInBounds_toArray, List.set_cons_zero, List.set_cons_succ]
        refine wpAnyH_take (i := 11) (oi := { dst := some 54, op := Op.fieldAddr 23 (Operand.tmp 3) 0, type := 0, pos := "more.go:20", after := #[{ on := 9, ground := Ground.guard }], guard := some (9, false) }) (v := ?_) rfl (by kernel_rfl) (by kernel_rfl) (by kernel_rfl) (fun _ _ _ h => h) (Or.inl ⟨by rfl, ?_⟩) (by assumption) ?_
        rotate_left 1
        · ((intro w hSw); (try dsimp only at hSw); go_simp; try (with_reducible rfl))
        try simp only [Act.put, List.setIfInBounds_toArray, List.set_cons_zero, List.set_cons_succ]
        refine wpAnyH_take (i := 12) (oi := { dst := some 55, op := Op.load 3 (Operand.tmp 54), type := 3, pos := "more.go:20", after := #[{ on := 11, ground := Ground.data }, { on := 9, ground := Ground.guard }], guard := some (9, false) }) (v := ?_) rfl (by kernel_rfl) (by kernel_rfl) (by kernel_rfl) (fun _ _ _ h => h) (Or.inl ⟨by rfl, ?_⟩) (by assumption) ?_
        rotate_left 1
        · ((intro w hSw); (try dsimp only at hSw); go_simp; try (with_reducible rfl))
        try simp only [Act.put, List.setIfInBounds_toArray, List.set_cons_zero, List.set_cons_succ]
        refine wpAnyH_take (i := 13) (oi := { dst := some 56, op := Op.binOp BinOp.gtr 3 (Operand.tmp 53) (Operand.tmp 55) 3, type := 4, pos := "more.go:20", after := #[{ on := 10, ground := Ground.data }, { on := 12, ground := Ground.data }, { on := 9, ground := Ground.guard }], guard := some (9, false) }) (v := ?_) rfl (by kernel_rfl) (by kernel_rfl) (by kernel_rfl) (fun _ _ _ h => h) (Or.inl ⟨by rfl, ?_⟩) (by assumption) ?_
        rotate_left 1
        · ((intro w hSw); (try dsimp only at hSw); go_simp; try (with_reducible rfl))
        try simp only [Act.put, List.setIfInBounds_toArray, List.set_cons_zero, List.set_cons_succ]
        refine wpAnyH_take (i := 14) (oi := { dst := some 57, op := Op.move (Operand.tmp 56), type := 4, pos := "more.go:20", after := #[{ on := 13, ground := Ground.data }, { on := 9, ground := Ground.chain }, { on := 9, ground := Ground.guard }], guard := some (9, false) }) (v := ?_) rfl (by kernel_rfl) (by kernel_rfl) (by kernel_rfl) (fun _ _ _ h => h) (Or.inl ⟨by rfl, ?_⟩) (by assumption) ?_
        rotate_left 1
        · ((intro w hSw); (try dsimp only at hSw); go_simp; try (with_reducible rfl))
        try simp only [Act.put, List.setIfInBounds_toArray, List.set_cons_zero, List.set_cons_succ]
        refine wpAnyH_take (i := 15) (oi := { dst := some 58, op := Op.load 23 (Operand.tmp 8), type := 23, pos := "more.go:20", after := #[{ on := 14, ground := Ground.guard }], guard := some (14, true) }) (v := ?_) rfl (by kernel_rfl) (by kernel_rfl) (by kernel_rfl) (fun _ _ _ h => h) (Or.inl ⟨by rfl, ?_⟩) (by assumption) ?_
        rotate_left 1
        · ((intro w hSw); (try dsimp only at hSw); go_simp; try (with_reducible rfl))
        try simp only [Act.put, List.setIfInBounds_toArray, List.set_cons_zero, List.set_cons_succ]
        refine wpAnyH_take (i := 16) (oi := { dst := some 59, op := Op.move (Operand.tmp 1), type := 3, pos := "more.go:20", after := #[{ on := 14, ground := Ground.guard }], guard := some (14, true) }) (v := ?_) rfl (by kernel_rfl) (by kernel_rfl) (by kernel_rfl) (fun _ _ _ h => h) (Or.inl ⟨by rfl, ?_⟩) (by assumption) ?_
        rotate_left 1
        · ((intro w hSw); (try dsimp only at hSw); go_simp; try (with_reducible rfl))
        try simp only [Act.put, List.setIfInBounds_toArray, List.set_cons_zero, List.set_cons_succ]
        refine wpAnyH_take (i := 17) (oi := { dst := some 60, op := Op.build 23 #[(0, Operand.tmp 59)], type := 23, pos := "more.go:20", after := #[{ on := 16, ground := Ground.data }, { on := 14, ground := Ground.guard }], guard := some (14, true) }) (v := ?_) rfl (by kernel_rfl) (by kernel_rfl) (by kernel_rfl) (fun _ _ _ h => h) (Or.inl ⟨by rfl, ?_⟩) (by assumption) ?_
        rotate_left 1
        · ((intro w hSw); (try dsimp only at hSw); go_simp; try (with_reducible rfl))
        try simp only [Act.put, List.setIfInBounds_toArray, List.set_cons_zero, List.set_cons_succ]
        refine wpAnyH_take (i := 18) (oi := { dst := some 61, op := Op.binOp BinOp.eql 23 (Operand.tmp 58) (Operand.tmp 60) 23, type := 4, pos := "more.go:20", after := #[{ on := 15, ground := Ground.data }, { on := 17, ground := Ground.data }, { on := 14, ground := Ground.guard }], guard := some (14, true) }) (v := ?_) rfl (by kernel_rfl) (by kernel_rfl) (by kernel_rfl) (fun _ _ _ h => h) (Or.inl ⟨by rfl, ?_⟩) (by assumption) ?_
        rotate_left 1
        · ((intro w hSw); (try dsimp only at hSw); go_simp; try (with_reducible rfl))
        try simp only [Act.put, List.setIfInBounds_toArray, List.set_cons_zero, List.set_cons_succ]
        refine wpAnyH_take (i := 19) (oi := { dst := some 62, op := Op.pick (Operand.tmp 57) (Operand.tmp 61) (Operand.const (Value.bool false)), type := 4, pos := "more.go:20", after := #[{ on := 14, ground := Ground.data }, { on := 18, ground := Ground.data }, { on := 9, ground := Ground.guard }], guard := some (9, false) }) (v := ?_) rfl (by kernel_rfl) (by kernel_rfl) (by kernel_rfl) (fun _ _ _ h => h) (Or.inl ⟨by rfl, ?_⟩) (by assumption) ?_
        rotate_left 1
        · ((intro w hSw); (try dsimp only at hSw); go_simp; try (with_reducible rfl))
        try simp only [Act.put, List.setIfInBounds_toArray, List.set_cons_zero, List.set_cons_succ]
        refine wpAnyH_take (i := 20) (oi := { dst := some 63, op := Op.pick (Operand.tmp 52) (Operand.const (Value.bool true)) (Operand.tmp 62), type := 4, pos := "more.go:20", after := #[{ on := 9, ground := Ground.data }, { on := 19, ground := Ground.data }], guard := none }) (v := ?_) rfl (by kernel_rfl) (by kernel_rfl) (by kernel_rfl) (fun _ _ _ h => h) (Or.inl ⟨by rfl, ?_⟩) (by assumption) ?_
        rotate_left 1
        · ((intro w hSw); (try dsimp only at hSw); go_simp; try (with_reducible rfl))
        try simp only [Act.put, List.setIfInBounds_toArray, List.set_cons_zero, List.set_cons_succ]
        refine wpAnyH_take (i := 21) (oi := { dst := some 64, op := Op.move (Operand.tmp 63), type := 4, pos := "more.go:20", after := #[{ on := 20, ground := Ground.data }, { on := 14, ground := Ground.chain }], guard := none }) (v := ?_) rfl (by kernel_rfl) (by kernel_rfl) (by kernel_rfl) (fun _ _ _ h => h) (Or.inl ⟨by rfl, ?_⟩) (by assumption) ?_
        rotate_left 1
        · ((intro w hSw); (try dsimp only at hSw); go_simp; try (with_reducible rfl))
        try simp only [Act.put, List.setIfInBounds_toArray, List.set_cons_zero, List.set_cons_succ]
        refine wpAnyH_take (i := 22) (oi := { dst := some 65, op := Op.load 23 (Operand.tmp 8), type := 23, pos := "more.go:20", after := #[{ on := 21, ground := Ground.guard }], guard := some (21, true) }) (v := ?_) rfl (by kernel_rfl) (by kernel_rfl) (by kernel_rfl) (fun _ _ _ h => h) (Or.inl ⟨by rfl, ?_⟩) (by assumption) ?_
        rotate_left 1
        · ((intro w hSw); (try dsimp only at hSw); go_simp; try (with_reducible rfl))
        try simp only [Act.put, List.setIfInBounds_toArray, List.set_cons_zero, List.set_cons_succ]
        refine wpAnyH_take (i := 23) (oi := { dst := some 66, op := Op.move (Operand.tmp 2), type := 3, pos := "more.go:20", after := #[{ on := 21, ground := Ground.guard }], guard := some (21, true) }) (v := ?_) rfl (by kernel_rfl) (by kernel_rfl) (by kernel_rfl) (fun _ _ _ h => h) (Or.inl ⟨by rfl, ?_⟩) (by assumption) ?_
        rotate_left 1
        · ((intro w hSw); (try dsimp only at hSw); go_simp; try (with_reducible rfl))
        try simp only [Act.put, List.setIfInBounds_toArray, List.set_cons_zero, List.set_cons_succ]
        refine wpAnyH_take (i := 25) (oi := { dst := some 68, op := Op.load 23 (Operand.tmp 3), type := 23, pos := "more.go:20", after := #[{ on := 21, ground := Ground.guard }], guard := some (21, true) }) (v := ?_) rfl (by kernel_rfl) (by kernel_rfl) (by kernel_rfl) (fun _ _ _ h => h) (Or.inl ⟨by rfl, ?_⟩) (by assumption) ?_
        rotate_left 1
        · ((intro w hSw); (try dsimp only at hSw); go_simp; try (with_reducible rfl))
        try simp only [Act.put, List.setIfInBounds_toArray, List.set_cons_zero, List.set_cons_succ]
        refine wpAnyH_take (i := 26) (oi := { dst := some 69, op := Op.move (Operand.tmp 9), type := 3, pos := "more.go:20", after := #[{ on := 21, ground := Ground.guard }], guard := some (21, true) }) (v := ?_) rfl (by kernel_rfl) (by kernel_rfl) (by kernel_rfl) (fun _ _ _ h => h) (Or.inl ⟨by rfl, ?_⟩) (by assumption) ?_
        rotate_left 1
        · ((intro w hSw); (try dsimp only at hSw); go_simp; try (with_reducible rfl))
        try simp only [Act.put, List.setIfInBounds_toArray, List.set_cons_zero, List.set_cons_succ]
        refine wpAnyH_ready (rs := [24]) (by kernel_rfl) (by simp) ?_
        refine AllReadyH.cons (o := { dst := some 67, op := Op.call { callee := Callee.value (Operand.func 19), args := #[Operand.tmp 65, Operand.tmp 66], argTypes := #[23, 3] }, type := 23, pos := "more.go:20", after := #[{ on := 22, ground := Ground.data }, { on := 23, ground := Ground.data }, { on := 21, ground := Ground.chain }, { on := 21, ground := Ground.guard }], guard := some (21, true) }) rfl (fun K hK => ?_) ?_
        rotate_left 1
        · exact AllReadyH.nil
        go_simp
        (go_at_call 19; with_reducible refine (HA.out _).mono ?_; rintro e w5 ⟨rfl, hb5⟩; replace gX := blk_keep hb5 (blk_drew gX); replace g0 := blk_keep hb5 (blk_drew g0); obtain ⟨x50, x51, _, _, _⟩ := box2 gX; obtain ⟨f50, f51, _, _, _⟩ := box2 g0; (first | (replace hw0 := hw0.trans (hb5.mono hw0.size)) | (replace hw0 := hw0.drew; replace hw0 := hw0.trans (hb5.mono hw0.size))))
        refine hK.out _ _ ?_ (fun hHeld => ?_)
        · ((try dsimp only); first | exact ⟨x60, x61, f60, f61⟩ | exact ⟨x50, x51, f50, f51⟩ | exact ⟨xc0, xc1, fc0, fc1⟩)
        clear hK K
        try simp only [Act.put, List.setIfInBounds_toArray, List.set_cons_zero, List.set_cons_succ]
        refine wpAnyH_ready (rs := [27]) (by kernel_rfl) (by simp) ?_
        refine AllReadyH.cons (o := { dst := some 70, op := Op.call { callee := Callee.value (Operand.func 19), args := #[Operand.tmp 68, Operand.tmp 69], argTypes := #[23, 3] }, type := 23, pos := "more.go:20", after := #[{ on := 25, ground := Ground.data }, { on := 26, ground := Ground.data }, { on := 24, ground := Ground.chain }, { on := 21, ground := Ground.guard }], guard := some (21, true) }) rfl (fun K hK => ?_) ?_
        rotate_left 1
        · exact AllReadyH.nil
        go_simp
        (go_at_call 19; with_reducible refine (HB.out _).mono ?_; rintro e w6 ⟨rfl, hb6⟩; replace gX := blk_keep hb6 (blk_drew gX); replace g0 := blk_keep hb6 (blk_drew g0); obtain ⟨x60, x61, _, _, _⟩ := box2 gX; obtain ⟨f60, f61, _, _, _⟩ := box2 g0; (first | (replace hw0 := hw0.trans (hb6.mono hw0.size)) | (replace hw0 := hw0.drew; replace hw0 := hw0.trans (hb6.mono hw0.size))))
        refine hK.out _ _ ?_ (fun hHeld => ?_)
        · ((try dsimp only); first | exact ⟨x60, x61, f60, f61⟩ | exact ⟨x50, x51, f50, f51⟩ | exact ⟨xc0, xc1, fc0, fc1⟩)
        clear hK K
        try simp only [Act.put, List.setIfInBounds_toArray, List.set_cons_zero, List.set_cons_succ]
        refine wpAnyH_take (i := 28) (oi := { dst := some 71, op := Op.binOp BinOp.eql 23 (Operand.tmp 67) (Operand.tmp 70) 23, type := 4, pos := "more.go:20", after := #[{ on := 24, ground := Ground.data }, { on := 27, ground := Ground.data }, { on := 21, ground := Ground.guard }], guard := some (21, true) }) (v := ?_) rfl (by kernel_rfl) (by kernel_rfl) (by kernel_rfl) (fun _ _ _ h => h) (Or.inl ⟨by rfl, ?_⟩) (by assumption) ?_
        rotate_left 1
        · ((intro w hSw); (try dsimp only at hSw); go_simp; try (with_reducible rfl))
        try simp only [Act.put, List.setIfInBounds_toArray, List.set_cons_zero, List.set_cons_succ]
        refine wpAnyH_take (i := 29) (oi := { dst := some 72, op := Op.pick (Operand.tmp 64) (Operand.tmp 71) (Operand.const (Value.bool false)), type := 4, pos := "more.go:20", after := #[{ on := 21, ground := Ground.data }, { on := 28, ground := Ground.data }], guard := none }) (v := ?_) rfl (by kernel_rfl) (by kernel_rfl) (by kernel_rfl) (fun _ _ _ h => h) (Or.inl ⟨by rfl, ?_⟩) (by assumption) ?_
        rotate_left 1
        · ((intro w hSw); (try dsimp only at hSw); go_simp; try (with_reducible rfl))
        try simp only [Act.put, List.setIfInBounds_toArray, List.set_cons_zero, List.set_cons_succ]
        refine wpAnyH_take (i := 30) (oi := { dst := some 6, op := Op.assign (Operand.tmp 72), type := 4, pos := "more.go:20", after := #[{ on := 29, ground := Ground.data }, { on := 27, ground := Ground.chain }, { on := 0, ground := Ground.phase }, { on := 1, ground := Ground.phase }, { on := 2, ground := Ground.phase }, { on := 3, ground := Ground.phase }, { on := 4, ground := Ground.phase }, { on := 5, ground := Ground.phase }, { on := 6, ground := Ground.phase }, { on := 7, ground := Ground.phase }, { on := 8, ground := Ground.phase }, { on := 9, ground := Ground.phase }, { on := 10, ground := Ground.phase }, { on := 11, ground := Ground.phase }, { on := 12, ground := Ground.phase }, { on := 13, ground := Ground.phase }, { on := 14, ground := Ground.phase }, { on := 15, ground := Ground.phase }, { on := 16, ground := Ground.phase }, { on := 17, ground := Ground.phase }, { on := 18, ground := Ground.phase }, { on := 19, ground := Ground.phase }, { on := 20, ground := Ground.phase }, { on := 21, ground := Ground.phase }, { on := 22, ground := Ground.phase }, { on := 23, ground := Ground.phase }, { on := 24, ground := Ground.phase }, { on := 25, ground := Ground.phase }, { on := 26, ground := Ground.phase }, { on := 27, ground := Ground.phase }, { on := 28, ground := Ground.phase }, { on := 29, ground := Ground.phase }], guard := none }) (v := ?_) rfl (by kernel_rfl) (by kernel_rfl) (by kernel_rfl) (fun _ _ _ h => h) (Or.inl ⟨by rfl, ?_⟩) (by assumption) ?_
        rotate_left 1
        · ((intro w hSw); (try dsimp only at hSw); go_simp; try (with_reducible rfl))
        try simp only [Act.put, List.setIfInBounds_toArray, List.set_cons_zero, List.set_cons_succ]
        refine wpAnyH_done (by kernel_rfl) ?_ _
        go_wp2
        go_ret
        exact ⟨rfl, hw0⟩
      · rw [show max s r = s by omega] at HB
        go_enter Try.func8, Try.ntmps8
        go_wp2_with (first
          | (go_at_call 15; refine (voteAwake_any _).mono ?_; rintro e w1 ⟨rfl, hb1⟩; have hw0 := below1 w (.cells #[.int .i64 t, .int .i64 v] 23); have g0 := blk_new w (.cells #[.int .i64 t, .int .i64 v] 23); replace hw0 := hw0.trans (hb1.mono hw0.size); replace g0 := blk_keep hb1 g0; obtain ⟨hc0, hc1, _, _, hlt0⟩ := box2 g0)
          | (go_at_call 22; refine (HM.out _).mono ?_; rintro e w2 ⟨rfl, hb2⟩; replace hw0 := hw0.trans (hb2.mono hw0.size); replace g0 := blk_keep hb2 g0; obtain ⟨hc0, hc1, _, _, hlt0⟩ := box2 g0)
          | (go_at_call 19; refine (HS.out _).mono ?_; rintro e w3 ⟨rfl, hb3⟩; replace hw0 := hw0.trans (hb3.mono hw0.size); replace g0 := blk_keep hb3 g0; obtain ⟨hc0, hc1, _, _, hlt0⟩ := box2 g0; have gX := blk_new w3 (.cells #[.int .i64 s, .int .i64 0] 23); replace g0 := blk_alloc g0 (.cells #[.int .i64 s, .int .i64 0] 23); replace hw0 := hw0.alloc hw0.size (.cells #[.int .i64 s, .int .i64 0] 23)))
        obtain ⟨xc0, xc1, _, _, xlt⟩ := box2 gX
        have fc0 := blk_cell g0 0
        have fc1 := blk_cell g0 1
        refine wp_region_held_drew (S := (fun W => W.cell? ⟨w3.heap.size, 0, none⟩ = some (.int .i64 s) ∧ W.cell? ⟨w3.heap.size, 1, none⟩ = some (.int .i64 0) ∧ W.cell? ⟨w.heap.size, 0, none⟩ = some (.int .i64 t) ∧ W.cell? ⟨w.heap.size, 1, none⟩ = some (.int .i64 v))) (by kernel_rfl) ?_ (fun hHeld => ?_)
        · ((try dsimp only); first | exact ⟨x60, x61, f60, f61⟩ | exact ⟨x50, x51, f50, f51⟩ | exact ⟨xc0, xc1, fc0, fc1⟩)
        refine wpAnyH_take (i := 0) (oi := { dst := some 43, op := Op.move (Operand.tmp 1), type := 3, pos := "more.go:20", after := #[], guard := none }) (v := ?_) rfl (by kernel_rfl) (by kernel_rfl) (by kernel_rfl) (fun _ _ _ h => h) (Or.inl ⟨by rfl, ?_⟩) (by assumption) ?_
        rotate_left 1
        · ((intro w hSw); (try dsimp only at hSw); go_simp; try (with_reducible rfl))
        try simp only [Act.put, List.setIfInBounds_toArray, List.set_cons_zero, List.set_cons_succ]
        refine wpAnyH_take (i := 1) (oi := { dst := some 44, op := Op.fieldAddr 23 (Operand.tmp 3) 0, type := 0, pos := "more.go:20", after := #[], guard := none }) (v := ?_) rfl (by kernel_rfl) (by kernel_rfl) (by kernel_rfl) (fun _ _ _ h => h) (Or.inl ⟨by rfl, ?_⟩) (by assumption) ?_
        rotate_left 1
        · ((intro w hSw); (try dsimp only at hSw); go_simp; try (with_reducible rfl))
        try simp only [Act.put, List.setIfInBounds_toArray, List.set_cons_zero, List.set_cons_succ]
        refine wpAnyH_take (i := 2) (oi := { dst := some 45, op := Op.load 3 (Operand.tmp 44), type := 3, pos := "more.go:20", after := #[{ on := 1, ground := Ground.data }], guard := none }) (v := ?_) rfl (by kernel_rfl) (by kernel_rfl) (by kernel_rfl) (fun _ _ _ h => h) (Or.inl ⟨by rfl, ?_⟩) (by assumption) ?_
        rotate_left 1
        · ((intro w hSw); (try dsimp only at hSw); go_simp; try (with_reducible rfl))
        try simp only [Act.put, List.setIfInBounds_toArray, List.set_cons_zero, List.set_cons_succ]
        refine wpAnyH_take (i := 3) (oi := { dst := some 46, op := Op.binOp BinOp.leq 3 (Operand.tmp 43) (Operand.tmp 45) 3, type := 4, pos := "more.go:20", after := #[{ on := 0, ground := Ground.data }, { on := 2, ground := Ground.data }], guard := none }) (v := ?_) rfl (by kernel_rfl) (by kernel_rfl) (by kernel_rfl) (fun _ _ _ h => h) (Or.inl ⟨by rfl, ?_⟩) (by assumption) ?_
        rotate_left 1
        · ((intro w hSw); (try dsimp only at hSw); go_simp; try (with_reducible rfl))
        try simp only [Act.put, List.setIfInBounds_toArray, List.set_cons_zero, List.set_cons_succ]
        refine wpAnyH_take (i := 4) (oi := { dst := some 47, op := Op.move (Operand.tmp 46), type := 4, pos := "more.go:20", after := #[{ on := 3, ground := Ground.data }], guard := none }) (v := ?_) rfl (by kernel_rfl) (by kernel_rfl) (by kernel_rfl) (fun _ _ _ h => h) (Or.inl ⟨by rfl, ?_⟩) (by assumption) ?_
        rotate_left 1
        · ((intro w hSw); (try dsimp only at hSw); go_simp; try (with_reducible rfl))
        try simp only [Act.put, List.setIfInBounds_toArray, List.set_cons_zero, List.set_cons_succ]
        refine wpAnyH_take (i := 5) (oi := { dst := some 48, op := Op.load 23 (Operand.tmp 8), type := 23, pos := "more.go:20", after := #[{ on := 4, ground := Ground.guard }], guard := some (4, true) }) (v := undef) rfl (by kernel_rfl) (by kernel_rfl) (by kernel_rfl) (fun _ _ _ h => h) (Or.inr ⟨by rfl, rfl⟩) (by assumption) ?_
        try simp only [Act.put, List.setIfInBounds_toArray, List.set_cons_zero, List.set_cons_succ]
        refine wpAnyH_take (i := 6) (oi := { dst := some 49, op := Op.load 23 (Operand.tmp 3), type := 23, pos := "more.go:20", after := #[{ on := 4, ground := Ground.guard }], guard := some (4, true) }) (v := undef) rfl (by kernel_rfl) (by kernel_rfl) (by kernel_rfl) (fun _ _ _ h => h) (Or.inr ⟨by rfl, rfl⟩) (by assumption) ?_
        try simp only [Act.put, List.setIfInBounds_toArray, List.set_cons_zero, List.set_cons_succ]
        refine wpAnyH_take (i := 7) (oi := { dst := some 50, op := Op.binOp BinOp.eql 23 (Operand.tmp 48) (Operand.tmp 49) 23, type := 4, pos := "more.go:20", after := #[{ on := 5, ground := Ground.data }, { on := 6, ground := Ground.data }, { on := 4, ground := Ground.guard }], guard := some (4, true) }) (v := undef) rfl (by kernel_rfl) (by kernel_rfl) (by kernel_rfl) (fun _ _ _ h => h) (Or.inr ⟨by rfl, rfl⟩) (by assumption) ?_
        try simp only [Act.put, List.setIfInBounds_toArray, List.set_cons_zero, List.set_cons_succ]
        refine wpAnyH_take (i := 8) (oi := { dst := some 51, op := Op.pick (Operand.tmp 47) (Operand.tmp 50) (Operand.const (Value.bool false)), type := 4, pos := "more.go:20", after := #[{ on := 4, ground := Ground.data }, { on := 7, ground := Ground.data }], guard := none }) (v := ?_) rfl (by kernel_rfl) (by kernel_rfl) (by kernel_rfl) (fun _ _ _ h => h) (Or.inl ⟨by rfl, ?_⟩) (by assumption) ?_
        rotate_left 1
        · ((intro w hSw); (try dsimp only at hSw); go_simp; try (with_reducible rfl))
        try simp only [Act.put, List.setIfInBounds_toArray, List.set_cons_zero, List.set_cons_succ]
        refine wpAnyH_take (i := 9) (oi := { dst := some 52, op := Op.move (Operand.tmp 51), type := 4, pos := "more.go:20", after := #[{ on := 8, ground := Ground.data }, { on := 4, ground := Ground.chain }], guard := none }) (v := ?_) rfl (by kernel_rfl) (by kernel_rfl) (by kernel_rfl) (fun _ _ _ h => h) (Or.inl ⟨by rfl, ?_⟩) (by assumption) ?_
        rotate_left 1
        · ((intro w hSw); (try dsimp only at hSw); go_simp; try (with_reducible rfl))
        try simp only [Act.put, List.setIfInBounds_toArray, List.set_cons_zero, List.set_cons_succ]
        refine wpAnyH_take (i := 10) (oi := { dst := some 53, op := Op.move (Operand.tmp 1), type := 3, pos := "more.go:20", after := #[{ on := 9, ground := Ground.guard }], guard := some (9, false) }) (v := ?_) rfl (by kernel_rfl) (by kernel_rfl) (by kernel_rfl) (fun _ _ _ h => h) (Or.inl ⟨by rfl, ?_⟩) (by assumption) ?_
        rotate_left 1
        · ((intro w hSw); (try dsimp only at hSw); go_simp; try (with_reducible rfl))
        try simp only [Act.put, List.setIfInBounds_toArray, List.set_cons_zero, List.set_cons_succ]
        refine wpAnyH_take (i := 11) (oi := { dst := some 54, op := Op.fieldAddr 23 (Operand.tmp 3) 0, type := 0, pos := "more.go:20", after := #[{ on := 9, ground := Ground.guard }], guard := some (9, false) }) (v := ?_) rfl (by kernel_rfl) (by kernel_rfl) (by kernel_rfl) (fun _ _ _ h => h) (Or.inl ⟨by rfl, ?_⟩) (by assumption) ?_
        rotate_left 1
        · ((intro w hSw); (try dsimp only at hSw); go_simp; try (with_reducible rfl))
        try simp only [Act.put, List.setIfInBounds_toArray, List.set_cons_zero, List.set_cons_succ]
        refine wpAnyH_take (i := 12) (oi := { dst := some 55, op := Op.load 3 (Operand.tmp 54), type := 3, pos := "more.go:20", after := #[{ on := 11, ground := Ground.data }, { on := 9, ground := Ground.guard }], guard := some (9, false) }) (v := ?_) rfl (by kernel_rfl) (by kernel_rfl) (by kernel_rfl) (fun _ _ _ h => h) (Or.inl ⟨by rfl, ?_⟩) (by assumption) ?_
        rotate_left 1
        · ((intro w hSw); (try dsimp only at hSw); go_simp; try (with_reducible rfl))
        try simp only [Act.put, List.setIfInBounds_toArray, List.set_cons_zero, List.set_cons_succ]
        refine wpAnyH_take (i := 13) (oi := { dst := some 56, op := Op.binOp BinOp.gtr 3 (Operand.tmp 53) (Operand.tmp 55) 3, type := 4, pos := "more.go:20", after := #[{ on := 10, ground := Ground.data }, { on := 12, ground := Ground.data }, { on := 9, ground := Ground.guard }], guard := some (9, false) }) (v := ?_) rfl (by kernel_rfl) (by kernel_rfl) (by kernel_rfl) (fun _ _ _ h => h) (Or.inl ⟨by rfl, ?_⟩) (by assumption) ?_
        rotate_left 1
        · ((intro w hSw); (try dsimp only at hSw); go_simp; try (with_reducible rfl))
        try simp only [Act.put, List.setIfInBounds_toArray, List.set_cons_zero, List.set_cons_succ]
        refine wpAnyH_take (i := 14) (oi := { dst := some 57, op := Op.move (Operand.tmp 56), type := 4, pos := "more.go:20", after := #[{ on := 13, ground := Ground.data }, { on := 9, ground := Ground.chain }, { on := 9, ground := Ground.guard }], guard := some (9, false) }) (v := ?_) rfl (by kernel_rfl) (by kernel_rfl) (by kernel_rfl) (fun _ _ _ h => h) (Or.inl ⟨by rfl, ?_⟩) (by assumption) ?_
        rotate_left 1
        · ((intro w hSw); (try dsimp only at hSw); go_simp; try (with_reducible rfl))
        try simp only [Act.put, List.setIfInBounds_toArray, List.set_cons_zero, List.set_cons_succ]
        refine wpAnyH_take (i := 15) (oi := { dst := some 58, op := Op.load 23 (Operand.tmp 8), type := 23, pos := "more.go:20", after := #[{ on := 14, ground := Ground.guard }], guard := some (14, true) }) (v := ?_) rfl (by kernel_rfl) (by kernel_rfl) (by kernel_rfl) (fun _ _ _ h => h) (Or.inl ⟨by rfl, ?_⟩) (by assumption) ?_
        rotate_left 1
        · ((intro w hSw); (try dsimp only at hSw); go_simp; try (with_reducible rfl))
        try simp only [Act.put, List.setIfInBounds_toArray, List.set_cons_zero, List.set_cons_succ]
        refine wpAnyH_take (i := 16) (oi := { dst := some 59, op := Op.move (Operand.tmp 1), type := 3, pos := "more.go:20", after := #[{ on := 14, ground := Ground.guard }], guard := some (14, true) }) (v := ?_) rfl (by kernel_rfl) (by kernel_rfl) (by kernel_rfl) (fun _ _ _ h => h) (Or.inl ⟨by rfl, ?_⟩) (by assumption) ?_
        rotate_left 1
        · ((intro w hSw); (try dsimp only at hSw); go_simp; try (with_reducible rfl))
        try simp only [Act.put, List.setIfInBounds_toArray, List.set_cons_zero, List.set_cons_succ]
        refine wpAnyH_take (i := 17) (oi := { dst := some 60, op := Op.build 23 #[(0, Operand.tmp 59)], type := 23, pos := "more.go:20", after := #[{ on := 16, ground := Ground.data }, { on := 14, ground := Ground.guard }], guard := some (14, true) }) (v := ?_) rfl (by kernel_rfl) (by kernel_rfl) (by kernel_rfl) (fun _ _ _ h => h) (Or.inl ⟨by rfl, ?_⟩) (by assumption) ?_
        rotate_left 1
        · ((intro w hSw); (try dsimp only at hSw); go_simp; try (with_reducible rfl))
        try simp only [Act.put, List.setIfInBounds_toArray, List.set_cons_zero, List.set_cons_succ]
        refine wpAnyH_take (i := 18) (oi := { dst := some 61, op := Op.binOp BinOp.eql 23 (Operand.tmp 58) (Operand.tmp 60) 23, type := 4, pos := "more.go:20", after := #[{ on := 15, ground := Ground.data }, { on := 17, ground := Ground.data }, { on := 14, ground := Ground.guard }], guard := some (14, true) }) (v := ?_) rfl (by kernel_rfl) (by kernel_rfl) (by kernel_rfl) (fun _ _ _ h => h) (Or.inl ⟨by rfl, ?_⟩) (by assumption) ?_
        rotate_left 1
        · ((intro w hSw); (try dsimp only at hSw); go_simp; try (with_reducible rfl))
        try simp only [Act.put, List.setIfInBounds_toArray, List.set_cons_zero, List.set_cons_succ]
        refine wpAnyH_take (i := 19) (oi := { dst := some 62, op := Op.pick (Operand.tmp 57) (Operand.tmp 61) (Operand.const (Value.bool false)), type := 4, pos := "more.go:20", after := #[{ on := 14, ground := Ground.data }, { on := 18, ground := Ground.data }, { on := 9, ground := Ground.guard }], guard := some (9, false) }) (v := ?_) rfl (by kernel_rfl) (by kernel_rfl) (by kernel_rfl) (fun _ _ _ h => h) (Or.inl ⟨by rfl, ?_⟩) (by assumption) ?_
        rotate_left 1
        · ((intro w hSw); (try dsimp only at hSw); go_simp; try (with_reducible rfl))
        try simp only [Act.put, List.setIfInBounds_toArray, List.set_cons_zero, List.set_cons_succ]
        refine wpAnyH_take (i := 20) (oi := { dst := some 63, op := Op.pick (Operand.tmp 52) (Operand.const (Value.bool true)) (Operand.tmp 62), type := 4, pos := "more.go:20", after := #[{ on := 9, ground := Ground.data }, { on := 19, ground := Ground.data }], guard := none }) (v := ?_) rfl (by kernel_rfl) (by kernel_rfl) (by kernel_rfl) (fun _ _ _ h => h) (Or.inl ⟨by rfl, ?_⟩) (by assumption) ?_
        rotate_left 1
        · ((intro w hSw); (try dsimp only at hSw); go_simp; try (with_reducible rfl))
        try simp only [Act.put, List.setIfInBounds_toArray, List.set_cons_zero, List.set_cons_succ]
        refine wpAnyH_take (i := 21) (oi := { dst := some 64, op := Op.move (Operand.tmp 63), type := 4, pos := "more.go:20", after := #[{ on := 20, ground := Ground.data }, { on := 14, ground := Ground.chain }], guard := none }) (v := ?_) rfl (by kernel_rfl) (by kernel_rfl) (by kernel_rfl) (fun _ _ _ h => h) (Or.inl ⟨by rfl, ?_⟩) (by assumption) ?_
        rotate_left 1
        · ((intro w hSw); (try dsimp only at hSw); go_simp; try (with_reducible rfl))
        try simp only [Act.put, List.setIfInBounds_toArray, List.set_cons_zero, List.set_cons_succ]
        refine wpAnyH_take (i := 22) (oi := { dst := some 65, op := Op.load 23 (Operand.tmp 8), type := 23, pos := "more.go:20", after := #[{ on := 21, ground := Ground.guard }], guard := some (21, true) }) (v := ?_) rfl (by kernel_rfl) (by kernel_rfl) (by kernel_rfl) (fun _ _ _ h => h) (Or.inl ⟨by rfl, ?_⟩) (by assumption) ?_
        rotate_left 1
        · ((intro w hSw); (try dsimp only at hSw); go_simp; try (with_reducible rfl))
        try simp only [Act.put, List.setIfInBounds_toArray, List.set_cons_zero, List.set_cons_succ]
        refine wpAnyH_take (i := 23) (oi := { dst := some 66, op := Op.move (Operand.tmp 2), type := 3, pos := "more.go:20", after := #[{ on := 21, ground := Ground.guard }], guard := some (21, true) }) (v := ?_) rfl (by kernel_rfl) (by kernel_rfl) (by kernel_rfl) (fun _ _ _ h => h) (Or.inl ⟨by rfl, ?_⟩) (by assumption) ?_
        rotate_left 1
        · ((intro w hSw); (try dsimp only at hSw); go_simp; try (with_reducible rfl))
        try simp only [Act.put, List.setIfInBounds_toArray, List.set_cons_zero, List.set_cons_succ]
        refine wpAnyH_take (i := 25) (oi := { dst := some 68, op := Op.load 23 (Operand.tmp 3), type := 23, pos := "more.go:20", after := #[{ on := 21, ground := Ground.guard }], guard := some (21, true) }) (v := ?_) rfl (by kernel_rfl) (by kernel_rfl) (by kernel_rfl) (fun _ _ _ h => h) (Or.inl ⟨by rfl, ?_⟩) (by assumption) ?_
        rotate_left 1
        · ((intro w hSw); (try dsimp only at hSw); go_simp; try (with_reducible rfl))
        try simp only [Act.put, List.setIfInBounds_toArray, List.set_cons_zero, List.set_cons_succ]
        refine wpAnyH_take (i := 26) (oi := { dst := some 69, op := Op.move (Operand.tmp 9), type := 3, pos := "more.go:20", after := #[{ on := 21, ground := Ground.guard }], guard := some (21, true) }) (v := ?_) rfl (by kernel_rfl) (by kernel_rfl) (by kernel_rfl) (fun _ _ _ h => h) (Or.inl ⟨by rfl, ?_⟩) (by assumption) ?_
        rotate_left 1
        · ((intro w hSw); (try dsimp only at hSw); go_simp; try (with_reducible rfl))
        try simp only [Act.put, List.setIfInBounds_toArray, List.set_cons_zero, List.set_cons_succ]
        refine wpAnyH_ready (rs := [24]) (by kernel_rfl) (by simp) ?_
        refine AllReadyH.cons (o := { dst := some 67, op := Op.call { callee := Callee.value (Operand.func 19), args := #[Operand.tmp 65, Operand.tmp 66], argTypes := #[23, 3] }, type := 23, pos := "more.go:20", after := #[{ on := 22, ground := Ground.data }, { on := 23, ground := Ground.data }, { on := 21, ground := Ground.chain }, { on := 21, ground := Ground.guard }], guard := some (21, true) }) rfl (fun K hK => ?_) ?_
        rotate_left 1
        · exact AllReadyH.nil
        go_simp
        (go_at_call 19; with_reducible refine (HA.out _).mono ?_; rintro e w5 ⟨rfl, hb5⟩; replace gX := blk_keep hb5 (blk_drew gX); replace g0 := blk_keep hb5 (blk_drew g0); obtain ⟨x50, x51, _, _, _⟩ := box2 gX; obtain ⟨f50, f51, _, _, _⟩ := box2 g0; (first | (replace hw0 := hw0.trans (hb5.mono hw0.size)) | (replace hw0 := hw0.drew; replace hw0 := hw0.trans (hb5.mono hw0.size))))
        refine hK.out _ _ ?_ (fun hHeld => ?_)
        · ((try dsimp only); first | exact ⟨x60, x61, f60, f61⟩ | exact ⟨x50, x51, f50, f51⟩ | exact ⟨xc0, xc1, fc0, fc1⟩)
        clear hK K
        try simp only [Act.put, List.setIfInBounds_toArray, List.set_cons_zero, List.set_cons_succ]
        refine wpAnyH_ready (rs := [27]) (by kernel_rfl) (by simp) ?_
        refine AllReadyH.cons (o := { dst := some 70, op := Op.call { callee := Callee.value (Operand.func 19), args := #[Operand.tmp 68, Operand.tmp 69], argTypes := #[23, 3] }, type := 23, pos := "more.go:20", after := #[{ on := 25, ground := Ground.data }, { on := 26, ground := Ground.data }, { on := 24, ground := Ground.chain }, { on := 21, ground := Ground.guard }], guard := some (21, true) }) rfl (fun K hK => ?_) ?_
        rotate_left 1
        · exact AllReadyH.nil
        go_simp
        (go_at_call 19; with_reducible refine (HB.out _).mono ?_; rintro e w6 ⟨rfl, hb6⟩; replace gX := blk_keep hb6 (blk_drew gX); replace g0 := blk_keep hb6 (blk_drew g0); obtain ⟨x60, x61, _, _, _⟩ := box2 gX; obtain ⟨f60, f61, _, _, _⟩ := box2 g0; (first | (replace hw0 := hw0.trans (hb6.mono hw0.size)) | (replace hw0 := hw0.drew; replace hw0 := hw0.trans (hb6.mono hw0.size))))
        refine hK.out _ _ ?_ (fun hHeld => ?_)
        · ((try dsimp only); first | exact ⟨x60, x61, f60, f61⟩ | exact ⟨x50, x51, f50, f51⟩ | exact ⟨xc0, xc1, fc0, fc1⟩)
        clear hK K
        try simp only [Act.put, List.setIfInBounds_toArray, List.set_cons_zero, List.set_cons_succ]
        refine wpAnyH_take (i := 28) (oi := { dst := some 71, op := Op.binOp BinOp.eql 23 (Operand.tmp 67) (Operand.tmp 70) 23, type := 4, pos := "more.go:20", after := #[{ on := 24, ground := Ground.data }, { on := 27, ground := Ground.data }, { on := 21, ground := Ground.guard }], guard := some (21, true) }) (v := ?_) rfl (by kernel_rfl) (by kernel_rfl) (by kernel_rfl) (fun _ _ _ h => h) (Or.inl ⟨by rfl, ?_⟩) (by assumption) ?_
        rotate_left 1
        · ((intro w hSw); (try dsimp only at hSw); go_simp; try (with_reducible rfl))
        try simp only [Act.put, List.setIfInBounds_toArray, List.set_cons_zero, List.set_cons_succ]
        refine wpAnyH_take (i := 29) (oi := { dst := some 72, op := Op.pick (Operand.tmp 64) (Operand.tmp 71) (Operand.const (Value.bool false)), type := 4, pos := "more.go:20", after := #[{ on := 21, ground := Ground.data }, { on := 28, ground := Ground.data }], guard := none }) (v := ?_) rfl (by kernel_rfl) (by kernel_rfl) (by kernel_rfl) (fun _ _ _ h => h) (Or.inl ⟨by rfl, ?_⟩) (by assumption) ?_
        rotate_left 1
        · ((intro w hSw); (try dsimp only at hSw); go_simp; try (with_reducible rfl))
        try simp only [Act.put, List.setIfInBounds_toArray, List.set_cons_zero, List.set_cons_succ]
        refine wpAnyH_take (i := 30) (oi := { dst := some 6, op := Op.assign (Operand.tmp 72), type := 4, pos := "more.go:20", after := #[{ on := 29, ground := Ground.data }, { on := 27, ground := Ground.chain }, { on := 0, ground := Ground.phase }, { on := 1, ground := Ground.phase }, { on := 2, ground := Ground.phase }, { on := 3, ground := Ground.phase }, { on := 4, ground := Ground.phase }, { on := 5, ground := Ground.phase }, { on := 6, ground := Ground.phase }, { on := 7, ground := Ground.phase }, { on := 8, ground := Ground.phase }, { on := 9, ground := Ground.phase }, { on := 10, ground := Ground.phase }, { on := 11, ground := Ground.phase }, { on := 12, ground := Ground.phase }, { on := 13, ground := Ground.phase }, { on := 14, ground := Ground.phase }, { on := 15, ground := Ground.phase }, { on := 16, ground := Ground.phase }, { on := 17, ground := Ground.phase }, { on := 18, ground := Ground.phase }, { on := 19, ground := Ground.phase }, { on := 20, ground := Ground.phase }, { on := 21, ground := Ground.phase }, { on := 22, ground := Ground.phase }, { on := 23, ground := Ground.phase }, { on := 24, ground := Ground.phase }, { on := 25, ground := Ground.phase }, { on := 26, ground := Ground.phase }, { on := 27, ground := Ground.phase }, { on := 28, ground := Ground.phase }, { on := 29, ground := Ground.phase }], guard := none }) (v := ?_) rfl (by kernel_rfl) (by kernel_rfl) (by kernel_rfl) (fun _ _ _ h => h) (Or.inl ⟨by rfl, ?_⟩) (by assumption) ?_
        rotate_left 1
        · ((intro w hSw); (try dsimp only at hSw); go_simp; try (with_reducible rfl))
        try simp only [Act.put, List.setIfInBounds_toArray, List.set_cons_zero, List.set_cons_succ]
        refine wpAnyH_done (by kernel_rfl) ?_ _
        go_wp2
        go_ret
        exact ⟨rfl, hw0⟩
end Go.Proofs.Ytifbcdjabdfeeaa
