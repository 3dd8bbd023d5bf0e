/-
  Aw: several texts in one.
-/
import Derived.Test.YthjdbmfobmnnlaaGreatMapV
import Derived.Test.YthjdbmfobmnnlaaGreatBa
import Derived.Handy
import Derived.Laws.EntriesVeiled
import Derived.Deep.RegionLaw
import Derived.Test.YthjdbmfobmnnlaaGreatGrD
/-
  A cluster is made; the commands of a controller.
-/
namespace Go.Proofs.YthjdbmfobmnnlaaGreat
open Go.RowKit
set_option linter.unusedVariables false
set_option maxRecDepth 100000 in
set_option maxHeartbeats 6400000 in
theorem clNew_plain (w : World) : Calls Tryz.prog 16 #[.agg #[.int .i64 10, .int .i64 2, .int .i64 4, .int .i64 2, .int .i64 5, .int .i64 1]] w fun e w' => ∃ C M, e = .returned (.tuple #[.pointer (some ⟨C, 0, none⟩), .int .i64 0]) ∧ w'.heap[C]? = some (.cells #[.slice none 0 0, .slice none 0 0, .slice none 0 0, .slice none 0 0, .slice none 0 0, .slice none 0 0, .int .i64 10, .int .i64 2, .int .i64 4, .int .i64 2, .int .i64 5, .int .i64 1, .int .i64 0, .map (some M), .slice none 0 0] 96) ∧ IMap w' M 0 [] ∧ w.heap.size ≤ M ∧ M < C ∧ Below w.heap.size w w' := by
  have hmm := @run_makeMap Tryz.prog
  go_enter Tryz.func16, Tryz.ntmps16
  go_wp2
  go_ret2
  refine ⟨_, w.heap.size + 1 + 1, rfl, ?_, ?_, by omega, by omega, ?_⟩
  · generalize hW : (((w.alloc _).alloc _).alloc _) = W
    have e : w.heap.size + 1 + 1 + 1 = W.heap.size := by rw [← hW]; simp
    rw [e]
    exact blk_new _ _
  · generalize hW : ((w.alloc _).alloc _) = W
    have e : w.heap.size + 1 + 1 = W.heap.size := by rw [← hW]; simp
    rw [e]
    exact (IMap.made W).alloc _
  · have h1 := below1 w (.cells #[.int .i64 10, .int .i64 2, .int .i64 4, .int .i64 2, .int .i64 5, .int .i64 1] 44)
    exact ((h1.alloc h1.size _).alloc (h1.alloc h1.size _).size _).alloc ((h1.alloc h1.size _).alloc (h1.alloc h1.size _).size _).size _
set_option maxRecDepth 100000 in
set_option maxHeartbeats 6400000 in
theorem clAt_some (w : World) (C n : Nat) (x y : Bool) : Calls Tryz.prog 48 #[.pointer (some ⟨C, 0, none⟩), .bool x, .bool y, .func (.func n) #[.pointer (some ⟨C, 0, none⟩)] #[]] w fun e w' => (∃ v, e = .returned v) ∧ Below w.heap.size w w' := by
  go_enter Tryz.func48, Tryz.ntmps48
  go_wp2
  go_ret
  refine ⟨⟨_, rfl⟩, ?_⟩
  exact (((below2 w _ _).alloc (below2 w _ _).size _).alloc ((below2 w _ _).alloc (below2 w _ _).size _).size _)
set_option maxRecDepth 100000 in
set_option maxHeartbeats 6400000 in
theorem commands_any (w : World) : Calls Tryz.prog 216 #[] w fun e w' => ∃ M, e = .returned (.map (some M)) ∧ IMap w' M 8 [(7, .func (.func 293) #[] #[]), (6, .func (.func 291) #[] #[]), (5, .func (.func 288) #[] #[]), (4, .func (.func 286) #[] #[]), (3, .func (.func 283) #[] #[]), (2, .func (.func 280) #[] #[]), (1, .func (.func 277) #[] #[]), (0, .func (.func 276) #[] #[])] ∧ w.heap.size ≤ M ∧ Below w.heap.size w w' := by
  have hmm := @run_makeMap Tryz.prog
  have hm0 := IMap.made w
  have hb0 := below1 w (.map #[] 0)
  go_enter Tryz.func216, Tryz.ntmps216
  go_wp2_with (first
    | (refine wpList_insertI (n := 0) (l := []) rfl 308 307 (.tmp 1) (.const (.int .i64 0)) (.func 276) (by rfl) Tryz.underlying308 (by rfl) (by rfl) (by rfl) hm0 (by decide) (by unfold maxLen; decide) ?_; intro w1 hm1 hc1)
    | (refine wpList_insertI (n := 1) (l := [(0, .func (.func 276) #[] #[])]) rfl 308 307 (.tmp 1) (.const (.int .i64 1)) (.func 277) (by rfl) Tryz.underlying308 (by rfl) (by rfl) (by rfl) hm1 (by decide) (by unfold maxLen; decide) ?_; intro w2 hm2 hc2)
    | (refine wpList_insertI (n := 2) (l := [(1, .func (.func 277) #[] #[]), (0, .func (.func 276) #[] #[])]) rfl 308 307 (.tmp 1) (.const (.int .i64 2)) (.func 280) (by rfl) Tryz.underlying308 (by rfl) (by rfl) (by rfl) hm2 (by decide) (by unfold maxLen; decide) ?_; intro w3 hm3 hc3)
    | (refine wpList_insertI (n := 3) (l := [(2, .func (.func 280) #[] #[]), (1, .func (.func 277) #[] #[]), (0, .func (.func 276) #[] #[])]) rfl 308 307 (.tmp 1) (.const (.int .i64 3)) (.func 283) (by rfl) Tryz.underlying308 (by rfl) (by rfl) (by rfl) hm3 (by decide) (by unfold maxLen; decide) ?_; intro w4 hm4 hc4)
    | (refine wpList_insertI (n := 4) (l := [(3, .func (.func 283) #[] #[]), (2, .func (.func 280) #[] #[]), (1, .func (.func 277) #[] #[]), (0, .func (.func 276) #[] #[])]) rfl 308 307 (.tmp 1) (.const (.int .i64 4)) (.func 286) (by rfl) Tryz.underlying308 (by rfl) (by rfl) (by rfl) hm4 (by decide) (by unfold maxLen; decide) ?_; intro w5 hm5 hc5)
    | (refine wpList_insertI (n := 5) (l := [(4, .func (.func 286) #[] #[]), (3, .func (.func 283) #[] #[]), (2, .func (.func 280) #[] #[]), (1, .func (.func 277) #[] #[]), (0, .func (.func 276) #[] #[])]) rfl 308 307 (.tmp 1) (.const (.int .i64 5)) (.func 288) (by rfl) Tryz.underlying308 (by rfl) (by rfl) (by rfl) hm5 (by decide) (by unfold maxLen; decide) ?_; intro w6 hm6 hc6)
    | (refine wpList_insertI (n := 6) (l := [(5, .func (.func 288) #[] #[]), (4, .func (.func 286) #[] #[]), (3, .func (.func 283) #[] #[]), (2, .func (.func 280) #[] #[]), (1, .func (.func 277) #[] #[]), (0, .func (.func 276) #[] #[])]) rfl 308 307 (.tmp 1) (.const (.int .i64 6)) (.func 291) (by rfl) Tryz.underlying308 (by rfl) (by rfl) (by rfl) hm6 (by decide) (by unfold maxLen; decide) ?_; intro w7 hm7 hc7)
    | (refine wpList_insertI (n := 7) (l := [(6, .func (.func 291) #[] #[]), (5, .func (.func 288) #[] #[]), (4, .func (.func 286) #[] #[]), (3, .func (.func 283) #[] #[]), (2, .func (.func 280) #[] #[]), (1, .func (.func 277) #[] #[]), (0, .func (.func 276) #[] #[])]) rfl 308 307 (.tmp 1) (.const (.int .i64 7)) (.func 293) (by rfl) Tryz.underlying308 (by rfl) (by rfl) (by rfl) hm7 (by decide) (by unfold maxLen; decide) ?_; intro w8 hm8 hc8))
  go_ret
  have q : ∀ (a b : World), Chg [w.heap.size] a b → w.heap.size ≤ a.heap.size → Below w.heap.size a b := fun a b hc hs => hc.to_below (fun x hx => by rw [List.mem_singleton] at hx; omega) hs
  have e0 := hb0.size
  have hb1 := hb0.trans (q _ _ hc1 hb0.size)
  have hb2 := hb1.trans (q _ _ hc2 hb1.size)
  have hb3 := hb2.trans (q _ _ hc3 hb2.size)
  have hb4 := hb3.trans (q _ _ hc4 hb3.size)
  have hb5 := hb4.trans (q _ _ hc5 hb4.size)
  have hb6 := hb5.trans (q _ _ hc6 hb5.size)
  have hb7 := hb6.trans (q _ _ hc7 hb6.size)
  have hb8 := hb7.trans (q _ _ hc8 hb7.size)
  exact ⟨_, rfl, hm8, Nat.le_refl _, hb8⟩
end Go.Proofs.YthjdbmfobmnnlaaGreat

/-
  What is done with nothing.
-/
namespace Go.Proofs.YthjdbmfobmnnlaaGreat
open Go.RowKit
set_option linter.unusedVariables false
set_option maxRecDepth 100000 in
set_option maxHeartbeats 6400000 in
theorem nodesMay_nil (w : World) : Calls Tryz.prog 152 #[.slice none 0 0] w fun e w' => e = .returned (.bool true) ∧ w' = w := by
  go_enter Tryz.func152, Tryz.ntmps152
  go_wp2
  go_loop [8] (fun i => i = .int .i64 0) (fun _ => 0)
  case atStart => rfl
  case round =>
    obtain rfl := hrel
    go_wp2
    go_ret
    exact ⟨rfl, rfl⟩
set_option maxRecDepth 100000 in
set_option maxHeartbeats 6400000 in
theorem rises_nil (a b : Int) (w : World) : Calls Tryz.prog 186 #[.slice none 0 0, .int .i64 a, .int .i64 b] w fun e w' => e = .returned (.bool true) ∧ w' = w := by
  go_enter Tryz.func186, Tryz.ntmps186
  go_wp2
  go_loop [11] (fun i => i = .int .i64 0) (fun _ => 0)
  case atStart => rfl
  case round =>
    obtain rfl := hrel
    go_wp2
    go_ret
    exact ⟨rfl, rfl⟩
set_option maxRecDepth 100000 in
set_option maxHeartbeats 6400000 in
theorem tableMay_nil (w : World) : Calls Tryz.prog 127 #[.slice none 0 0] w fun e w' => e = .returned (.bool true) ∧ w' = w := by
  go_enter Tryz.func127, Tryz.ntmps127
  go_wp2
  go_loop [3, 8] (fun ids i => ids = .slice none 0 0 ∧ i = .int .i64 0) (fun _ _ => 0)
  case atStart => exact ⟨rfl, rfl⟩
  case round =>
    obtain ⟨rfl, rfl⟩ := hrel
    go_wp2_with (go_at_call 186; refine (rises_nil _ _ _).mono ?_; rintro e wx ⟨rfl, hwx⟩; subst hwx)
    go_ret
    exact ⟨rfl, rfl⟩
set_option maxRecDepth 100000 in
set_option maxHeartbeats 6400000 in
theorem sessionMay_nil (w : World) : Calls Tryz.prog 214 #[.slice none 0 0] w fun e w' => e = .returned (.bool true) ∧ w' = w := by
  go_enter Tryz.func214, Tryz.ntmps214
  go_wp2
  go_loop [8] (fun i => i = .int .i64 0) (fun _ => 0)
  case atStart => rfl
  case round =>
    obtain rfl := hrel
    go_wp2
    go_ret
    exact ⟨rfl, rfl⟩
set_option maxRecDepth 100000 in
set_option maxHeartbeats 6400000 in
theorem indexChunk_nil (n : Nat) (c : Array Value) (w : World) : Calls Tryz.prog 275 #[.slice none 0 0, .func (.func n) #[] c] w fun e w' => e = .returned (.int .i64 (-1)) ∧ w' = w := by
  go_enter Tryz.func275, Tryz.ntmps275
  go_wp2
  go_loop [8] (fun i => i = .int .i64 0) (fun _ => 0)
  case atStart => rfl
  case round =>
    obtain rfl := hrel
    go_wp2
    go_ret
    exact ⟨rfl, rfl⟩
set_option maxRecDepth 100000 in
set_option maxHeartbeats 6400000 in
theorem containsChunk_nil (n : Nat) (c : Array Value) (w : World) : Calls Tryz.prog 215 #[.slice none 0 0, .func (.func n) #[] c] w fun e w' => e = .returned (.bool false) ∧ w' = w := by
  go_enter Tryz.func215, Tryz.ntmps215
  go_wp2_with (go_at_call 275; refine (indexChunk_nil _ _ _).mono ?_; rintro e wx ⟨rfl, hwx⟩; subst hwx)
  go_ret
  exact ⟨rfl, rfl⟩
set_option maxRecDepth 100000 in
set_option maxHeartbeats 6400000 in
theorem placeNode_nil (id : Int) (w : World) : Calls Tryz.prog 322 #[.slice none 0 0, .int .i64 id] w fun e w' => e = .returned (.tuple #[.int .i64 0, .bool false]) ∧ w' = w := by
  go_enter Tryz.func322, Tryz.ntmps322
  go_wp2
  go_loop [9, 10] (fun i j => i = .int .i64 0 ∧ j = .int .i64 0) (fun _ _ => 0)
  case atStart => exact ⟨rfl, rfl⟩
  case round =>
    obtain ⟨rfl, rfl⟩ := hrel
    go_wp2
    go_ret2
    exact ⟨rfl, rfl⟩
set_option maxRecDepth 100000 in
set_option maxHeartbeats 6400000 in
theorem cloneNode_nil (w : World) : Calls Tryz.prog 209 #[.slice none 0 0] w fun e w' => e = .returned (.slice none 0 0) ∧ w' = w := by
  have hN : (binOp .eql 85 (.slice none 0 0) (.slice none 0 0)).run Tryz.prog w = .ok (.bool true) w := by kernel_rfl
  go_enter Tryz.func209, Tryz.ntmps209
  go_wp2
  go_ret
  exact ⟨rfl, rfl⟩
set_option maxRecDepth 100000 in
set_option maxHeartbeats 6400000 in
theorem cloneChunk_nil (w : World) : Calls Tryz.prog 169 #[.slice none 0 0] w fun e w' => e = .returned (.slice none 0 0) ∧ w' = w := by
  have hN : (binOp .eql 86 (.slice none 0 0) (.slice none 0 0)).run Tryz.prog w = .ok (.bool true) w := by kernel_rfl
  go_enter Tryz.func169, Tryz.ntmps169
  go_wp2
  go_ret
  exact ⟨rfl, rfl⟩
set_option maxRecDepth 100000 in
set_option maxHeartbeats 6400000 in
theorem cloneSession_nil (w : World) : Calls Tryz.prog 210 #[.slice none 0 0] w fun e w' => e = .returned (.slice none 0 0) ∧ w' = w := by
  have hN : (binOp .eql 87 (.slice none 0 0) (.slice none 0 0)).run Tryz.prog w = .ok (.bool true) w := by kernel_rfl
  go_enter Tryz.func210, Tryz.ntmps210
  go_wp2
  go_ret
  exact ⟨rfl, rfl⟩
set_option maxRecDepth 100000 in
set_option maxHeartbeats 6400000 in
theorem nodesFair_nil (w : World) : Calls Tryz.prog 321 #[.slice none 0 0] w fun e w' => e = .returned (.slice none 0 0) ∧ w' = w := by
  go_enter Tryz.func321, Tryz.ntmps321
  go_wp2_with (first
    | (go_at_call 152; refine (nodesMay_nil _).mono ?_; rintro e wx ⟨rfl, hwx⟩; subst hwx)
    | (go_at_call 209; refine (cloneNode_nil _).mono ?_; rintro e wx ⟨rfl, hwx⟩; subst hwx))
  go_ret
  exact ⟨rfl, rfl⟩
theorem elemNode : Elem Tryz.prog 85 235 (.agg #[.int .i64 0, .int .i64 0, .int .i64 0, .int .i64 0]) 4 32 := ⟨Tryz.underlying85, by kernel_rfl, rfl, by omega⟩
set_option maxRecDepth 100000 in
set_option maxHeartbeats 6400000 in
theorem insertNode_nil (a b c d : Int) (A : Nat) (w : World) (hA : RowAt w (some ⟨A, 0, none⟩) [.int .i64 a, .int .i64 b, .int .i64 c, .int .i64 d]) : Calls Tryz.prog 341 #[.slice none 0 0, .int .i64 0, .slice (some ⟨A, 0, none⟩) 1 1] w fun e w' => (∃ B c, e = .returned (.slice B 1 c)) ∧ Below w.heap.size w w' := by
  go_enter Tryz.func341, Tryz.ntmps341
  go_wp2_with (at_builtin; refine wpList_append_row rfl (.tmp 23) (.tmp 24) rfl elemNode w.heap.size (.slice none 0 0) 0 [] (by rfl) (World.ownsRow_nil _ _ _ _) (some ⟨A, 0, none⟩) 1 1 [.int .i64 a, .int .i64 b, .int .i64 c, .int .i64 d] (by rfl) (by rfl) hA (by simp [Value.oneCell']) (by unfold maxLen; omega) (by omega) (Nat.le_refl _) (fun h => by cases h) ?_; intro a1 c1 w1 hown hg hat)
  go_ret
  exact ⟨⟨a1, c1, rfl⟩, Below.appended (below0 w) (World.ownsRow_nil w w.heap.size 235 4) hg (Nat.le_refl _) (Nat.le_refl _)⟩
set_option maxRecDepth 100000 in
set_option maxHeartbeats 6400000 in
theorem copied_nil (w : World) : Calls Tryz.prog 140 #[.agg #[.slice none 0 0, .slice none 0 0, .slice none 0 0]] w fun e w' => e = .returned (.agg #[.slice none 0 0, .slice none 0 0, .slice none 0 0]) ∧ Below w.heap.size w w' := by
  go_enter Tryz.func140, Tryz.ntmps140
  go_wp2_with (fail)
  go_cut [] (fun wx => wx = ((w.alloc (.cells #[.slice none 0 0, .slice none 0 0, .slice none 0 0] 89)).alloc (.cells #[.slice none 0 0, .slice none 0 0, .slice none 0 0] 89)).drew)
  case first =>
    go_region_law (first
      | (go_simp; go_at_call 209; refine (cloneNode_nil _).mono ?_; rintro e wx ⟨rfl, hwx⟩; subst hwx; (try go_simp))
      | (go_simp; go_at_call 169; refine (cloneChunk_nil _).mono ?_; rintro e wx ⟨rfl, hwx⟩; subst hwx; (try go_simp))
      | (go_simp; go_at_call 210; refine (cloneSession_nil _).mono ?_; rintro e wx ⟨rfl, hwx⟩; subst hwx; (try go_simp)))
    all_goals (go_wp2_with fail; go_meet)
    all_goals rfl
  case rest =>
    obtain rfl := hcut
    go_wp2
    go_loop [20] (fun i => i = .int .i64 0) (fun _ => 0)
    case atStart => rfl
    case round =>
      obtain rfl := hrel
      go_wp2
      go_returns
      have h1 := below2 w (.cells #[.slice none 0 0, .slice none 0 0, .slice none 0 0] 89) (.cells #[.slice none 0 0, .slice none 0 0, .slice none 0 0] 89)
      exact ⟨rfl, h1.drew⟩
end Go.Proofs.YthjdbmfobmnnlaaGreat

/-
  A node is added.
-/
namespace Go.Proofs.YthjdbmfobmnnlaaGreat
open Go.RowKit
set_option linter.unusedVariables false
theorem box6 {w : World} {F : Nat} {c0 c1 c2 c3 c4 c5 : Value} {t : TypeId} (h : w.heap[F]? = some (.cells #[c0, c1, c2, c3, c4, c5] t)) : w.cell? ⟨F, 0, none⟩ = some c0 ∧ w.cell? ⟨F, 1, none⟩ = some c1 ∧ w.cell? ⟨F, 2, none⟩ = some c2 ∧ w.cell? ⟨F, 3, none⟩ = some c3 ∧ w.cell? ⟨F, 4, none⟩ = some c4 ∧ w.cell? ⟨F, 5, none⟩ = some c5 ∧ w.frozen? ⟨F, 1, none⟩ = false ∧ F < w.heap.size :=
  ⟨blk_cell h 0, blk_cell h 1, blk_cell h 2, blk_cell h 3, blk_cell h 4, blk_cell h 5, blk_frozen h 1, blk_lt h⟩
set_option maxRecDepth 100000 in
set_option maxHeartbeats 1600000 in
theorem mayNode_ex (w : World) : Calls Tryz.prog 231 #[.agg #[.int .i64 1, .int .i64 1, .int .i64 4, .int .i64 0]] w fun e w' => e = .returned (.bool true) ∧ Below w.heap.size w w' := by
  have hal := below1 w (.cells #[.int .i64 1, .int .i64 1, .int .i64 4, .int .i64 0] 235)
  go_enter Tryz.func231, Tryz.ntmps231
  go_wp2
  go_ret
  exact ⟨rfl, hal⟩
set_option maxRecDepth 100000 in
set_option maxHeartbeats 1600000 in
theorem nodesAdd_nil (w : World) : Calls Tryz.prog 279 #[.slice none 0 0, .agg #[.int .i64 1, .int .i64 1, .int .i64 4, .int .i64 0]] w fun e w' => (∃ B c, e = .returned (.tuple #[.slice B 1 c, .int .i64 0])) ∧ Below w.heap.size w w' := by
  have hal := below1 w (.cells #[.int .i64 1, .int .i64 1, .int .i64 4, .int .i64 0] 235)
  have g0 := blk_new w (.cells #[.int .i64 1, .int .i64 1, .int .i64 4, .int .i64 0] 235)
  have HI : Hid (∀ W : World, Calls Tryz.prog 341 #[.slice none 0 0, .int .i64 0, .slice (some ⟨W.heap.size, 0, none⟩) 1 1] (W.alloc (.cells #[.int .i64 1, .int .i64 1, .int .i64 4, .int .i64 0] 235)) fun e w' => (∃ B c, e = .returned (.slice B 1 c)) ∧ Below W.heap.size W w') := fun W => by
    refine (insertNode_nil 1 1 4 0 _ _ (RowAt.new W _ _)).mono ?_
    rintro e w' ⟨h1, h2⟩
    have h3 := below1 W (.cells #[.int .i64 1, .int .i64 1, .int .i64 4, .int .i64 0] 235)
    exact ⟨h1, h3.trans (h2.mono h3.size)⟩
  go_enter Tryz.func279, Tryz.ntmps279
  go_wp2_with (first
    | (go_at_call 321; refine (nodesFair_nil _).mono ?_; rintro e wx ⟨rfl, hwx⟩; subst hwx)
    | (go_at_call 322; refine (placeNode_nil _ _).mono ?_; rintro e wx ⟨rfl, hwx⟩; subst hwx)
    | (go_at_call 231; refine (mayNode_ex _).mono ?_; rintro e w2 ⟨rfl, hb2⟩; have g2 := blk_keep hb2 g0; have hw2 := hal.trans (hb2.mono hal.size); obtain ⟨b0, b1, b2, b3, bf0, blt⟩ := box4 g2)
    | (go_at_call 341; refine (HI.out w2).mono ?_; rintro e w3 ⟨⟨B3, c3, rfl⟩, hb3⟩; have hw3 := hw2.trans (hb3.mono hw2.size)))
  go_ret2
  exact ⟨⟨B3, c3, rfl⟩, hw3⟩
set_option maxRecDepth 100000 in
set_option maxHeartbeats 6400000 in
theorem servers_ok (D B c : Nat) (A : Option Addr) (v0 v1 v2 : Value) (w : World) (hD : w.heap[D]? = some (.cells #[v0, v1, v2, .int .i64 0, .int .i64 0] 306)) : Calls Tryz.prog 278 #[.pointer (some ⟨D, 0, none⟩), .slice A B c, .int .i64 0] w fun e w' => e = .returned (.tuple #[]) ∧ w'.heap[D]? = some (.cells #[.slice A B c, v1, v2, .int .i64 0, .int .i64 0] 306) ∧ Chg [D] w w' := by
  obtain ⟨c0, c1, c2, c3, c4, f0, f1, f2, f3, f4, hlt⟩ := box5 hD
  go_enter Tryz.func278, Tryz.ntmps278
  go_wp2
  refine bodyPost_end (results_none rfl _ _ _) rfl ?_
  refine ⟨rfl, ?_, ((Chg.refl [D] w).setCell (.inl (by simp)) _ _).setCell (.inl (by simp)) _ _⟩
  have := blk_set (i := 0) (blk_set (i := 3) hD (.int .i64 0)) (.slice A B c)
  simpa using this
set_option maxRecDepth 100000 in
set_option maxHeartbeats 6400000 in
theorem cmdAdd_ok (D : Nat) (w : World) (hD : w.heap[D]? = some (.cells #[.slice none 0 0, .slice none 0 0, .slice none 0 0, .int .i64 0, .int .i64 0] 306)) : Calls Tryz.prog 277 #[.pointer (some ⟨D, 0, none⟩), .agg #[.int .i64 0, .int .i64 0, .int .i64 1, .int .i64 1, .int .i64 1, .int .i64 4]] w fun e w' => e = .returned (.tuple #[]) ∧ ∃ B c, w'.heap[D]? = some (.cells #[.slice B 1 c, .slice none 0 0, .slice none 0 0, .int .i64 0, .int .i64 0] 306) ∧ Chg [D] w w' := by
  have hal := below1 w (.cells #[.int .i64 0, .int .i64 0, .int .i64 1, .int .i64 1, .int .i64 1, .int .i64 4] 80)
  have g0 := blk_keep hal hD
  obtain ⟨c0, c1, c2, c3, c4, f0, f1, f2, f3, f4, hlt⟩ := box5 g0
  go_enter Tryz.func277, Tryz.ntmps277
  obtain ⟨e0, e1, e2, e3, e4, e5, ef, elt⟩ := box6 (blk_new w (.cells #[.int .i64 0, .int .i64 0, .int .i64 1, .int .i64 1, .int .i64 1, .int .i64 4] 80))
  go_wp2_with fail
  generalize hW : w.alloc (.cells #[.int .i64 0, .int .i64 0, .int .i64 1, .int .i64 1, .int .i64 1, .int .i64 4] 80) = W at *
  go_region_law (first
    | (go_simp; go_at_call 279; refine (nodesAdd_nil _).mono ?_; rintro e w2 ⟨⟨B2, c2, rfl⟩, hb2⟩; have g2 := blk_keep hb2 (blk_drawn g0); have hw2 := hal.drew.trans (hb2.mono hal.size); (try go_simp))
    | (go_simp; go_at_call 278; refine (servers_ok D 1 c2 B2 _ _ _ _ g2).mono ?_; rintro e w3 ⟨rfl, g3, hc3⟩; (try go_simp)))
  all_goals (
    refine bodyPost_end (results_none rfl _ _ _) rfl ?_
    exact ⟨rfl, B2, c2, g3, Chg.pre hw2 hc3⟩)
set_option maxRecDepth 100000 in
set_option maxHeartbeats 1600000 in
theorem answered_ok (w : World) : Calls Tryz.prog 217 #[.agg #[.int .i64 0, .int .i64 0]] w fun e w' => e = .returned (.int .i64 0) ∧ Below w.heap.size w w' := by
  have hal := below1 w (.cells #[.int .i64 0, .int .i64 0] 304)
  go_enter Tryz.func217, Tryz.ntmps217
  go_wp2
  go_ret
  exact ⟨rfl, hal⟩
set_option maxRecDepth 100000 in
set_option maxHeartbeats 6400000 in
theorem mayMeta_nil (w : World) : Calls Tryz.prog 141 #[.agg #[.slice none 0 0, .slice none 0 0, .slice none 0 0]] w fun e w' => e = .returned (.bool true) ∧ Below w.heap.size w w' := by
  go_enter Tryz.func141, Tryz.ntmps141
  go_wp2_with (first
    | (go_at_call 152; refine (nodesMay_nil _).mono ?_; rintro e wx ⟨rfl, hwx⟩; subst hwx)
    | (go_at_call 127; refine (tableMay_nil _).mono ?_; rintro e wx ⟨rfl, hwx⟩; subst hwx)
    | (go_at_call 214; refine (sessionMay_nil _).mono ?_; rintro e wx ⟨rfl, hwx⟩; subst hwx)
    | (go_at_call 215; refine (containsChunk_nil _ _ _).mono ?_; rintro e wx ⟨rfl, hwx⟩; subst hwx))
  go_ret
  have h1 := below1 w (.cells #[.slice none 0 0, .slice none 0 0, .slice none 0 0] 89)
  exact ⟨rfl, h1.alloc h1.size _⟩
set_option maxRecDepth 100000 in
set_option maxHeartbeats 6400000 in
theorem doesAdd_ok (w : World) : Calls Tryz.prog 142 #[.agg #[.slice none 0 0, .slice none 0 0, .slice none 0 0], .agg #[.int .i64 0, .int .i64 0, .int .i64 1, .int .i64 1, .int .i64 1, .int .i64 4]] w fun e w' => ∃ B c, e = .returned (.tuple #[.agg #[.slice B 1 c, .slice none 0 0, .slice none 0 0], .int .i64 0]) ∧ Below w.heap.size w w' := by
  have h1 := below1 w (.cells #[.slice none 0 0, .slice none 0 0, .slice none 0 0] 89)
  have h2 := h1.alloc h1.size (.cells #[.int .i64 0, .int .i64 0, .int .i64 1, .int .i64 1, .int .i64 1, .int .i64 4] 80)
  have h3 := h2.alloc h2.size (.cells #[.slice none 0 0, .slice none 0 0, .slice none 0 0] 89)
  have h4 := h3.alloc h3.size (.cells #[.slice none 0 0, .slice none 0 0, .slice none 0 0, .int .i64 0, .int .i64 0] 306)
  have gC : ((((w.alloc (.cells #[.slice none 0 0, .slice none 0 0, .slice none 0 0] 89)).alloc (.cells #[.int .i64 0, .int .i64 0, .int .i64 1, .int .i64 1, .int .i64 1, .int .i64 4] 80)).alloc (.cells #[.slice none 0 0, .slice none 0 0, .slice none 0 0] 89)).alloc (.cells #[.slice none 0 0, .slice none 0 0, .slice none 0 0, .int .i64 0, .int .i64 0] 306)).heap[w.heap.size + 1]? = some (.cells #[.int .i64 0, .int .i64 0, .int .i64 1, .int .i64 1, .int .i64 1, .int .i64 4] 80) := by
    refine blk_alloc (blk_alloc ?_ _) _
    have := blk_new (w.alloc (.cells #[.slice none 0 0, .slice none 0 0, .slice none 0 0] 89)) (.cells #[.int .i64 0, .int .i64 0, .int .i64 1, .int .i64 1, .int .i64 1, .int .i64 4] 80)
    rwa [show (w.alloc (.cells #[.slice none 0 0, .slice none 0 0, .slice none 0 0] 89)).heap.size = w.heap.size + 1 by simp] at this
  have gR : ((((w.alloc (.cells #[.slice none 0 0, .slice none 0 0, .slice none 0 0] 89)).alloc (.cells #[.int .i64 0, .int .i64 0, .int .i64 1, .int .i64 1, .int .i64 1, .int .i64 4] 80)).alloc (.cells #[.slice none 0 0, .slice none 0 0, .slice none 0 0] 89)).alloc (.cells #[.slice none 0 0, .slice none 0 0, .slice none 0 0, .int .i64 0, .int .i64 0] 306)).heap[w.heap.size + 1 + 1]? = some (.cells #[.slice none 0 0, .slice none 0 0, .slice none 0 0] 89) := by
    refine blk_alloc ?_ _
    have := blk_new ((w.alloc (.cells #[.slice none 0 0, .slice none 0 0, .slice none 0 0] 89)).alloc (.cells #[.int .i64 0, .int .i64 0, .int .i64 1, .int .i64 1, .int .i64 1, .int .i64 4] 80)) (.cells #[.slice none 0 0, .slice none 0 0, .slice none 0 0] 89)
    rwa [show ((w.alloc (.cells #[.slice none 0 0, .slice none 0 0, .slice none 0 0] 89)).alloc (.cells #[.int .i64 0, .int .i64 0, .int .i64 1, .int .i64 1, .int .i64 1, .int .i64 4] 80)).heap.size = w.heap.size + 1 + 1 by simp] at this
  have gD : ((((w.alloc (.cells #[.slice none 0 0, .slice none 0 0, .slice none 0 0] 89)).alloc (.cells #[.int .i64 0, .int .i64 0, .int .i64 1, .int .i64 1, .int .i64 1, .int .i64 4] 80)).alloc (.cells #[.slice none 0 0, .slice none 0 0, .slice none 0 0] 89)).alloc (.cells #[.slice none 0 0, .slice none 0 0, .slice none 0 0, .int .i64 0, .int .i64 0] 306)).heap[w.heap.size + 1 + 1 + 1]? = some (.cells #[.slice none 0 0, .slice none 0 0, .slice none 0 0, .int .i64 0, .int .i64 0] 306) := by
    have := blk_new (((w.alloc (.cells #[.slice none 0 0, .slice none 0 0, .slice none 0 0] 89)).alloc (.cells #[.int .i64 0, .int .i64 0, .int .i64 1, .int .i64 1, .int .i64 1, .int .i64 4] 80)).alloc (.cells #[.slice none 0 0, .slice none 0 0, .slice none 0 0] 89)) (.cells #[.slice none 0 0, .slice none 0 0, .slice none 0 0, .int .i64 0, .int .i64 0] 306)
    rwa [show (((w.alloc (.cells #[.slice none 0 0, .slice none 0 0, .slice none 0 0] 89)).alloc (.cells #[.int .i64 0, .int .i64 0, .int .i64 1, .int .i64 1, .int .i64 1, .int .i64 4] 80)).alloc (.cells #[.slice none 0 0, .slice none 0 0, .slice none 0 0] 89)).heap.size = w.heap.size + 1 + 1 + 1 by simp] at this
  have e4 := h4.size
  go_enter Tryz.func142, Tryz.ntmps142
  go_wp2_with fail
  generalize hW : ((((w.alloc (.cells #[.slice none 0 0, .slice none 0 0, .slice none 0 0] 89)).alloc (.cells #[.int .i64 0, .int .i64 0, .int .i64 1, .int .i64 1, .int .i64 1, .int .i64 4] 80)).alloc (.cells #[.slice none 0 0, .slice none 0 0, .slice none 0 0] 89)).alloc (.cells #[.slice none 0 0, .slice none 0 0, .slice none 0 0, .int .i64 0, .int .i64 0] 306)) = W at *
  clear h1 h2 h3 hW
  generalize hF1 : w.heap.size + 1 = F1 at *
  generalize hF2 : F1 + 1 = F2 at *
  generalize hF3 : F2 + 1 = F3 at *
  obtain ⟨e0, e1, e2, e3, e4', e5, ef, elt⟩ := box6 gC
  go_cut [7] (fun q wx => q = .func (.func 277) #[] #[] ∧ wx.heap[F1]? = some (.cells #[.int .i64 0, .int .i64 0, .int .i64 1, .int .i64 1, .int .i64 1, .int .i64 4] 80) ∧ wx.heap[F2]? = some (.cells #[.slice none 0 0, .slice none 0 0, .slice none 0 0] 89) ∧ wx.heap[F3]? = some (.cells #[.slice none 0 0, .slice none 0 0, .slice none 0 0, .int .i64 0, .int .i64 0] 306) ∧ Below w.heap.size w wx)
  case first =>
    go_region_law (first
      | (go_simp; go_at_call 216; refine (commands_any _).mono ?_; rintro e w2 ⟨M, rfl, hm2, hM2, hb2⟩; have HLK : (Instr.lookup 308 (.map (some M)) (.int .i64 1) false).run Tryz.prog w2 = .ok (.func (.func 277) #[] #[]) w2 := IMap.look hm2 Tryz.underlying308 (z := .nilFunc) (by kernel_rfl) 1 (by decide); have gC2 := blk_keep hb2 (blk_drawn gC); have gD2 := blk_keep hb2 (blk_drawn gD); have gR2 := blk_keep hb2 (blk_drawn gR); have hw2 := h4.drew.trans (hb2.mono h4.size); obtain ⟨k0, k1, k2, k3, k4, k5, kf, klt⟩ := box6 gC2; (try go_simp)))
    all_goals (go_wp2_with fail; go_meet)
    all_goals exact ⟨rfl, gC2, gR2, gD2, hw2⟩
  case rest =>
    obtain ⟨rfl, gC2, gR2, gD2, hw2⟩ := hcut
    rename_i w2
    clear gC gR gD h4 e0 e1 e2 e3 e4' e5 ef elt
    obtain ⟨k0, k1, k2, k3, k4, k5, kf, klt⟩ := box6 gC2
    have hnn : ∀ W, (binOp .neq 307 (.func (.func 277) #[] #[]) .nilFunc).run Tryz.prog W = .ok (.bool true) W := fun _ => by kernel_rfl
    go_wp2_with (go_at_call 277; refine (cmdAdd_ok F3 _ gD2).mono ?_; rintro e w3 ⟨rfl, B3, c3, g3, hc3⟩)
    have gR3 := hc3.keep gR2 (by simp; omega)
    have hw3 := hw2.trans (hc3.to_below (B := w.heap.size) (fun x hx => by rw [List.mem_singleton] at hx; omega) hw2.size)
    clear gC2 gR2 gD2 hc3 k0 k1 k2 k3 k4 k5 kf klt hnn
    obtain ⟨d0, d1, d2, d3, d4, _, _, _, _, _, dlt⟩ := box5 g3
    have hs3 := hw3.size
    obtain ⟨r0, r1, r2, rf0, rf1, rf2, rlt⟩ := box3 gR3
    go_cut [5] (fun q wx => q = .int .i64 0 ∧ wx.heap[F2]? = some (.cells #[.slice B3 1 c3, .slice none 0 0, .slice none 0 0] 89) ∧ Below w.heap.size w wx)
    case first =>
      go_region_law (first
        | (go_simp; go_at_call 217; refine (answered_ok _).mono ?_; rintro e w4 ⟨rfl, hb4⟩; have gR4 := blk_keep hb4 (blk_drawn gR3); have hw4 := hw3.drew.trans (hb4.mono hs3); obtain ⟨s0, s1, s2, sf0, sf1, sf2, slt⟩ := box3 gR4; have gD4 := blk_keep hb4 (blk_drawn g3); obtain ⟨t0, t1, t2, t3, t4, _, _, _, _, _, tlt⟩ := box5 gD4; (try go_simp)))
      all_goals (go_wp2_with fail; go_meet)
      all_goals exact ⟨rfl, set3_blk gR4 _ _ _, ((hw4.setCell (p := ⟨F2, 0, none⟩) (by show w.heap.size ≤ F2; omega) _).setCell (p := ⟨F2, 1, none⟩) (by show w.heap.size ≤ F2; omega) _).setCell (p := ⟨F2, 2, none⟩) (by show w.heap.size ≤ F2; omega) _⟩
    case rest =>
      obtain ⟨rfl, gR5, hw5⟩ := hcut
      obtain ⟨z0, z1, z2, zf0, zf1, zf2, zlt⟩ := box3 gR5
      go_wp2
      refine bodyPost_ret (v := .tuple #[.agg #[.slice B3 1 c3, .slice none 0 0, .slice none 0 0], .int .i64 0]) (by simp [results, Tryz.results142, go_sem, z0, z1, z2]; try rfl) rfl ?_
      exact ⟨_, _, rfl, hw5⟩
end Go.Proofs.YthjdbmfobmnnlaaGreat

/-
  A server is added.
-/
namespace Go.Proofs.YthjdbmfobmnnlaaGreat
open Go.RowKit
set_option linter.unusedVariables false
set_option maxRecDepth 100000 in
set_option maxHeartbeats 6400000 in
theorem applyAdd_ok (w : World) : Calls Tryz.prog 89 #[.agg #[.slice none 0 0, .slice none 0 0, .slice none 0 0], .agg #[.int .i64 0, .int .i64 0, .int .i64 1, .int .i64 1, .int .i64 1, .int .i64 4]] w fun e w' => ∃ B c, e = .returned (.tuple #[.agg #[.slice B 1 c, .slice none 0 0, .slice none 0 0], .int .i64 0]) ∧ Below w.heap.size w w' := by
  have h1 := below1 w (.cells #[.slice none 0 0, .slice none 0 0, .slice none 0 0] 89)
  have h2 := h1.alloc h1.size (.cells #[.int .i64 0, .int .i64 0, .int .i64 1, .int .i64 1, .int .i64 1, .int .i64 4] 80)
  have h3 := h2.alloc h2.size (.cells #[.slice none 0 0, .slice none 0 0, .slice none 0 0] 89)
  have gM : (((w.alloc (.cells #[.slice none 0 0, .slice none 0 0, .slice none 0 0] 89)).alloc (.cells #[.int .i64 0, .int .i64 0, .int .i64 1, .int .i64 1, .int .i64 1, .int .i64 4] 80)).alloc (.cells #[.slice none 0 0, .slice none 0 0, .slice none 0 0] 89)).heap[w.heap.size]? = some (.cells #[.slice none 0 0, .slice none 0 0, .slice none 0 0] 89) := blk_alloc (blk_alloc (blk_new _ _) _) _
  have gC : (((w.alloc (.cells #[.slice none 0 0, .slice none 0 0, .slice none 0 0] 89)).alloc (.cells #[.int .i64 0, .int .i64 0, .int .i64 1, .int .i64 1, .int .i64 1, .int .i64 4] 80)).alloc (.cells #[.slice none 0 0, .slice none 0 0, .slice none 0 0] 89)).heap[w.heap.size + 1]? = some (.cells #[.int .i64 0, .int .i64 0, .int .i64 1, .int .i64 1, .int .i64 1, .int .i64 4] 80) := by
    refine blk_alloc ?_ _
    have := blk_new (w.alloc (.cells #[.slice none 0 0, .slice none 0 0, .slice none 0 0] 89)) (.cells #[.int .i64 0, .int .i64 0, .int .i64 1, .int .i64 1, .int .i64 1, .int .i64 4] 80)
    rwa [show (w.alloc (.cells #[.slice none 0 0, .slice none 0 0, .slice none 0 0] 89)).heap.size = w.heap.size + 1 by simp] at this
  have gR : (((w.alloc (.cells #[.slice none 0 0, .slice none 0 0, .slice none 0 0] 89)).alloc (.cells #[.int .i64 0, .int .i64 0, .int .i64 1, .int .i64 1, .int .i64 1, .int .i64 4] 80)).alloc (.cells #[.slice none 0 0, .slice none 0 0, .slice none 0 0] 89)).heap[w.heap.size + 1 + 1]? = some (.cells #[.slice none 0 0, .slice none 0 0, .slice none 0 0] 89) := by
    have := blk_new ((w.alloc (.cells #[.slice none 0 0, .slice none 0 0, .slice none 0 0] 89)).alloc (.cells #[.int .i64 0, .int .i64 0, .int .i64 1, .int .i64 1, .int .i64 1, .int .i64 4] 80)) (.cells #[.slice none 0 0, .slice none 0 0, .slice none 0 0] 89)
    rwa [show ((w.alloc (.cells #[.slice none 0 0, .slice none 0 0, .slice none 0 0] 89)).alloc (.cells #[.int .i64 0, .int .i64 0, .int .i64 1, .int .i64 1, .int .i64 1, .int .i64 4] 80)).heap.size = w.heap.size + 1 + 1 by simp] at this
  have e4 := h3.size
  go_enter Tryz.func89, Tryz.ntmps89
  go_upto_region 5 with (first
    | (go_at_call 140; refine (copied_nil _).mono ?_; rintro e w2 ⟨rfl, hb2⟩; have gM2 := blk_keep hb2 gM; have gC2 := blk_keep hb2 gC; have gR2 := blk_keep hb2 gR; have hw2 := h3.trans (hb2.mono h3.size); obtain ⟨m0, m1, m2, mf0, mf1, mf2, mlt⟩ := box3 gM2)
    | (go_at_call 141; refine (mayMeta_nil _).mono ?_; rintro e w3 ⟨rfl, hb3⟩; have gM3 := blk_keep hb3 (set3_blk gM2 (.slice none 0 0) (.slice none 0 0) (.slice none 0 0)); have gC3 := blk_keep hb3 (blk_far (blk_far (blk_far gC2 (G := w.heap.size) (by omega) _) (G := w.heap.size) (by omega) _) (G := w.heap.size) (by omega) _); have gR3 := blk_keep hb3 (blk_far (blk_far (blk_far gR2 (G := w.heap.size) (by omega) _) (G := w.heap.size) (by omega) _) (G := w.heap.size) (by omega) _); obtain ⟨k0, k1, k2, k3, k4, k5, kf, klt⟩ := box6 gC3; have hw2' := ((hw2.setCell (p := ⟨w.heap.size, 0, none⟩) (Nat.le_refl _) (.slice none 0 0)).setCell (p := ⟨w.heap.size, 1, none⟩) (Nat.le_refl _) (.slice none 0 0)).setCell (p := ⟨w.heap.size, 2, none⟩) (Nat.le_refl _) (.slice none 0 0); have hw3 := hw2'.trans (hb3.mono hw2'.size)))
  obtain ⟨n0, n1, n2, nf0, nf1, nf2, nlt⟩ := box3 gM3
  go_wp2_with (go_at_call 142; refine (doesAdd_ok _).mono ?_; rintro e w4 ⟨B4, c4, rfl, hb4⟩; have gR4 := blk_keep hb4 gR3; obtain ⟨r0, r1, r2, rf0, rf1, rf2, rlt⟩ := box3 gR4; have hw4 := hw3.trans (hb4.mono hw3.size))
  obtain ⟨z0, z1, z2, zf0, zf1, zf2, zlt⟩ := box3 (set3_blk gR4 (.slice B4 1 c4) (.slice none 0 0) (.slice none 0 0))
  refine bodyPost_ret (v := .tuple #[.agg #[.slice B4 1 c4, .slice none 0 0, .slice none 0 0], .int .i64 0]) (by simp [results, Tryz.results89, go_sem, z0, z1, z2]; try rfl) rfl ?_
  exact ⟨_, _, rfl, ((hw4.setCell (p := ⟨w.heap.size + 1 + 1, 0, none⟩) (by show w.heap.size ≤ w.heap.size + 1 + 1; omega) _).setCell (p := ⟨w.heap.size + 1 + 1, 1, none⟩) (by show w.heap.size ≤ w.heap.size + 1 + 1; omega) _).setCell (p := ⟨w.heap.size + 1 + 1, 2, none⟩) (by show w.heap.size ≤ w.heap.size + 1 + 1; omega) _⟩
set_option maxRecDepth 100000 in
set_option maxHeartbeats 6400000 in
theorem knownAdd_ok (C M : Nat) (w : World) (hC : w.heap[C]? = some (.cells #[.slice none 0 0, .slice none 0 0, .slice none 0 0, .slice none 0 0, .slice none 0 0, .slice none 0 0, .int .i64 10, .int .i64 2, .int .i64 4, .int .i64 2, .int .i64 5, .int .i64 1, .int .i64 0, .map (some M), .slice none 0 0] 96)) : Calls Tryz.prog 82 #[.pointer (some ⟨C, 0, none⟩), .agg #[.int .i64 0, .int .i64 0, .int .i64 1, .int .i64 1, .int .i64 1, .int .i64 4]] w fun e w' => e = .returned (.int .i64 0) ∧ w'.cell? ⟨C, 13, none⟩ = some (.map (some M)) ∧ Chg [C] w w' := by
  have h1 := below1 w (.cells #[.int .i64 0, .int .i64 0, .int .i64 1, .int .i64 1, .int .i64 1, .int .i64 4] 80)
  have gC := blk_keep h1 hC
  have gX := blk_new w (.cells #[.int .i64 0, .int .i64 0, .int .i64 1, .int .i64 1, .int .i64 1, .int .i64 4] 80)
  have hlt := blk_lt hC
  have q0 := blk_cell gC 0
  have q1 := blk_cell gC 1
  have q2 := blk_cell gC 2
  go_enter Tryz.func82, Tryz.ntmps82
  go_wp2_with fail
  generalize hW : w.alloc (.cells #[.int .i64 0, .int .i64 0, .int .i64 1, .int .i64 1, .int .i64 1, .int .i64 4] 80) = W at *
  clear hW hC
  have hs1 := h1.size
  have hlt2 := blk_lt gC
  obtain ⟨e0, e1, e2, e3, e4, e5, ef, elt⟩ := box6 gX
  go_cut [5, 6] (fun p q wx => ∃ X c2 B2, p = .pointer (some ⟨X, 0, none⟩) ∧ q = .int .i64 0 ∧ wx.heap[X]? = some (.cells #[.slice B2 1 c2, .slice none 0 0, .slice none 0 0] 89) ∧ w.heap.size ≤ X ∧ wx.heap[C]? = some (.cells #[.slice none 0 0, .slice none 0 0, .slice none 0 0, .slice none 0 0, .slice none 0 0, .slice none 0 0, .int .i64 10, .int .i64 2, .int .i64 4, .int .i64 2, .int .i64 5, .int .i64 1, .int .i64 0, .map (some M), .slice none 0 0] 96) ∧ Below w.heap.size w wx)
  case first =>
    go_region_law (first
      | (go_simp; go_at_call 89; (with_reducible refine (applyAdd_ok W.drew).mono ?_); rintro e w2 ⟨B2, c2, rfl, hb2⟩; have gC2 := blk_keep hb2 (blk_drawn gC); have hw2 := h1.drew.trans (hb2.mono h1.size); (try go_simp))
      | (go_simp; go_at_call 89; (with_reducible refine (applyAdd_ok (W.alloc (.cells #[.slice none 0 0, .slice none 0 0, .slice none 0 0] 89)).drew).mono ?_); rintro e w2 ⟨B2, c2, rfl, hb2⟩; have gC2 := blk_keep hb2 (blk_drawn (blk_alloc gC (.cells #[.slice none 0 0, .slice none 0 0, .slice none 0 0] 89))); have gX2 := blk_keep hb2 (blk_drawn (blk_new W (.cells #[.slice none 0 0, .slice none 0 0, .slice none 0 0] 89))); have hw2 := (h1.alloc h1.size (.cells #[.slice none 0 0, .slice none 0 0, .slice none 0 0] 89)).drew.trans (hb2.mono (h1.alloc h1.size (.cells #[.slice none 0 0, .slice none 0 0, .slice none 0 0] 89)).size); obtain ⟨x0, x1, x2, xf0, xf1, xf2, xlt⟩ := box3 gX2; (try go_simp)))
    all_goals (go_wp2_with fail; go_meet)
    all_goals first
      | (with_reducible exact ⟨w2.heap.size, c2, B2, rfl, rfl, blk_new _ _, hw2.size, blk_alloc gC2 _, hw2.alloc hw2.size _⟩)
      | exact ⟨_, _, _, rfl, rfl, set3_blk gX2 _ _ _, hs1, blk_far (blk_far (blk_far gC2 (G := W.heap.size) (by omega) _) (G := W.heap.size) (by omega) _) (G := W.heap.size) (by omega) _, ((hw2.setCell (p := ⟨W.heap.size, 0, none⟩) hs1 _).setCell (p := ⟨W.heap.size, 1, none⟩) hs1 _).setCell (p := ⟨W.heap.size, 2, none⟩) hs1 _⟩
  case rest =>
    obtain ⟨X, c2, B2, rfl, rfl, gX2, hX, gC2, hw2⟩ := hcut
    obtain ⟨x0, x1, x2, xf0, xf1, xf2, xlt⟩ := box3 gX2
    have p0 := blk_cell gC2 0
    have p1 := blk_cell gC2 1
    have p2 := blk_cell gC2 2
    have p3 := blk_frozen gC2 0
    have p4 := blk_frozen gC2 1
    have p5 := blk_frozen gC2 2
    have plt := blk_lt gC2
    have hne : C ≠ X := by omega
    go_wp2
    go_ret
    have g3 := blk_set (i := 2) (blk_set (i := 1) (blk_set (i := 0) gC2 (.slice B2 1 c2)) (.slice none 0 0)) (.slice none 0 0)
    have g13 := blk_cell g3 13
    exact ⟨rfl, by simpa using g13, (((Chg.of_below hw2 : Chg [C] _ _).setCell (.inl (by simp)) _ _).setCell (.inl (by simp)) _ _).setCell (.inl (by simp)) _ _⟩
set_option maxRecDepth 100000 in
set_option maxHeartbeats 6400000 in
theorem serverNew_ok (w : World) : Calls Tryz.prog 83 #[.int .i64 4] w fun e w' => (∃ S, e = .returned (.pointer (some ⟨S, 0, none⟩))) ∧ Below w.heap.size w w' := by
  have hmm := @run_makeMap Tryz.prog
  have h1 := below1 w (.map #[] 0)
  go_enter Tryz.func83, Tryz.ntmps83
  go_wp2
  go_ret
  exact ⟨⟨_, rfl⟩, h1.alloc h1.size _⟩
theorem add_fin {C M S : Nat} {w w2 w3 w5 : World} (hne : M ≠ C) (hc : Chg [C] w w2) (hb3 : Below w2.drew.heap.size w2.drew w3) (m3 : w3.cell? ⟨C, 13, none⟩ = some (.map (some M)))
    (hm5 : w5.ownsMap Tryz.prog 3 HV M (0 + 1) ((mapI []).put (.int .i64 1) (.held (.pointer (some ⟨w3.heap.size, 0, none⟩))))) (ht5 : (w3.alloc (.cells #[.pointer (some ⟨S, 0, none⟩), .bool true] 111)).mapTurned w5 M) (mlt : M < w2.heap.size) (hclt : C < w2.heap.size) :
    w5.cell? ⟨C, 13, none⟩ = some (.map (some M)) ∧ (∃ H, w.heap.size ≤ H ∧ H < w5.heap.size ∧ IMap w5 M 1 [(1, .pointer (some ⟨H, 0, none⟩))] ∧ w5.cell? ⟨H, 1, none⟩ = some (.bool true)) ∧ Chg [C, M] w w5 := by
  have ct := turned_chg ht5
  have hs3 : w2.heap.size ≤ w3.heap.size := hb3.size
  have ha := below1 w3 (.cells #[.pointer (some ⟨S, 0, none⟩), .bool true] 111)
  have gH := blk_new w3 (.cells #[.pointer (some ⟨S, 0, none⟩), .bool true] 111)
  have hsa := ha.size
  have hsc := hc.size
  have hs5 := ct.size
  have hsx : (w3.alloc (.cells #[.pointer (some ⟨S, 0, none⟩), .bool true] 111)).heap.size = w3.heap.size + 1 := by simp
  refine ⟨?_, ⟨w3.heap.size, by omega, by omega, hm5, ?_⟩, ?_⟩
  · rw [ct.cell (by omega) (by simp; omega)]
    exact ((bcell ha).1 _ 13 (by omega)).trans m3
  · exact blk_cell (ct.keep gH (by simp; omega)) 1
  · have k1 : Chg [C] w w3 := (hc.drew).below hb3
    have k2 := k1.below ha
    exact (k2.mono (T := [C, M]) (fun x hx => .inl (by simp at hx; simp [hx]))).trans (ct.mono (T := [C, M]) (fun x hx => .inl (by simp at hx; simp [hx]))) (fun x hx => .inl hx)
set_option maxRecDepth 100000 in
set_option maxHeartbeats 6400000 in
theorem addHost_ok (C M : Nat) (w : World) (hC : w.heap[C]? = some (.cells #[.slice none 0 0, .slice none 0 0, .slice none 0 0, .slice none 0 0, .slice none 0 0, .slice none 0 0, .int .i64 10, .int .i64 2, .int .i64 4, .int .i64 2, .int .i64 5, .int .i64 1, .int .i64 0, .map (some M), .slice none 0 0] 96)) (hM : IMap w M 0 []) (hne : M ≠ C) : Calls Tryz.prog 43 #[.pointer (some ⟨C, 0, none⟩), .agg #[.int .i64 1, .int .i64 1, .int .i64 1, .int .i64 4]] w fun e w' => e = .returned (.int .i64 0) ∧ w'.cell? ⟨C, 13, none⟩ = some (.map (some M)) ∧ (∃ H, w.heap.size ≤ H ∧ H < w'.heap.size ∧ IMap w' M 1 [(1, .pointer (some ⟨H, 0, none⟩))] ∧ w'.cell? ⟨H, 1, none⟩ = some (.bool true)) ∧ Chg [C, M] w w' := by
  have h1 := below1 w (.cells #[.int .i64 1, .int .i64 1, .int .i64 1, .int .i64 4] 30)
  have gC := blk_keep h1 hC
  have gX := blk_new w (.cells #[.int .i64 1, .int .i64 1, .int .i64 1, .int .i64 4] 30)
  have hlt := blk_lt hC
  have hM1 := hM.below h1
  go_enter Tryz.func43, Tryz.ntmps43
  go_upto_region 3 with (go_at_call 82; refine (knownAdd_ok C M _ gC).mono ?_; rintro e w2 ⟨rfl, m2, hc2⟩)
  have gX2 := hc2.keep gX (by simp; omega)
  have hM2 := hM1.chg hc2 (by simpa using hne)
  have mlt := hM2.lt
  have hs1 := h1.size
  have hs2 := hc2.size
  have hclt : C < w2.heap.size := by omega
  obtain ⟨b0, b1, b2, b3, bf, blt⟩ := box4 gX2
  generalize hW : w.alloc (.cells #[.int .i64 1, .int .i64 1, .int .i64 1, .int .i64 4] 30) = W at *
  have hc2' := Chg.pre h1 hc2
  clear hW hC gC gX hM hM1 hc2
  go_cut [] (fun wx => wx.cell? ⟨C, 13, none⟩ = some (.map (some M)) ∧ (∃ H, w.heap.size ≤ H ∧ H < wx.heap.size ∧ IMap wx M 1 [(1, .pointer (some ⟨H, 0, none⟩))] ∧ wx.cell? ⟨H, 1, none⟩ = some (.bool true)) ∧ Chg [C, M] w wx)
  case first =>
    go_region_law (first
      | (go_simp; go_at_call 83; refine (serverNew_ok _).mono ?_; rintro e w3 ⟨⟨S, rfl⟩, hb3⟩; have m3 := ((bcell hb3).1 _ 13 hclt).trans m2; have hM3 := (IMap.below (show IMap w2.drew M 0 [] from hM2) hb3).alloc (.cells #[.pointer (some ⟨S, 0, none⟩), .bool true] 111); obtain ⟨w5, hrun5, hm5, ht5⟩ := World.ownsMap.store hM3 keyedI Tryz.underlying84 (by unfold maxLen; decide) (intKeyI (k := 1) (by decide)) (val := .pointer (some ⟨w3.heap.size, 0, none⟩)) (d := .held (.pointer (some ⟨w3.heap.size, 0, none⟩))) (ps := []) rfl; have gX3 := blk_keep hb3 (blk_drawn gX2); obtain ⟨x0, x1, x2, x3, xf, xlt⟩ := box4 gX3; have hs3 := hb3.size; have hclt3 : C < w3.heap.size := Nat.lt_of_lt_of_le hclt hs3; (try go_simp)))
    all_goals (go_wp2_with fail; go_meet)
    all_goals exact add_fin hne hc2' hb3 m3 hm5 ht5 mlt hclt
  case rest =>
    obtain ⟨m5, hH, hc5⟩ := hcut
    go_wp2
    go_ret
    exact ⟨rfl, m5, hH, hc5⟩
end Go.Proofs.YthjdbmfobmnnlaaGreat
