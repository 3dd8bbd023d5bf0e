/-
  A cluster and a group answer.
-/
import Derived.Test.YthjdbmfobmnnlaaGreatAw
import Derived.Test.YthjdbmfobmnnlaaGreatGf
import Derived.Handy
import Derived.Laws.EntriesVeiled
namespace Go.Proofs.YthjdbmfobmnnlaaGreat
open Go.RowKit
set_option linter.unusedVariables false
set_option maxRecDepth 100000 in
set_option maxHeartbeats 1600000 in
theorem plain_any (w : World) : Calls Tryz.prog 21 #[] w fun e w' => e = .returned (.agg #[.int .i64 10, .int .i64 2, .int .i64 4, .int .i64 2, .int .i64 5, .int .i64 1]) ∧ Below w.heap.size w w' := by
  go_enter Tryz.func21, Tryz.ntmps21
  go_wp2
  go_returns
  exact ⟨rfl, below1 w _⟩
set_option maxRecDepth 100000 in
set_option maxHeartbeats 6400000 in
theorem clDoAdd_ok (C M : Nat) (w : World) (hC : w.heap[C]? = some (.cells #[.slice none 0 0, .slice none 0 0, .slice none 0 0, .slice none 0 0, .slice none 0 0, .slice none 0 0, .int .i64 10, .int .i64 2, .int .i64 4, .int .i64 2, .int .i64 5, .int .i64 1, .int .i64 0, .map (some M), .slice none 0 0] 96)) (hM : IMap w M 0 []) (hne : M ≠ C) : Calls Tryz.prog 17 #[.pointer (some ⟨C, 0, none⟩), itV 1 1 1 4] w fun e w' => e = .returned (.int .i64 0) ∧ w'.cell? ⟨C, 13, none⟩ = some (.map (some M)) ∧ (∃ H, w.heap.size ≤ H ∧ H < w'.heap.size ∧ IMap w' M 1 [(1, .pointer (some ⟨H, 0, none⟩))] ∧ w'.cell? ⟨H, 1, none⟩ = some (.bool true)) ∧ Chg [C, M] w w' := by
  have hmm := @run_makeMap Tryz.prog
  have h1 := below1 w (.cells #[.int .i64 1, .int .i64 1, .int .i64 1, .int .i64 4] 30)
  have h2 := h1.alloc h1.size (.map #[] 0)
  have gX : ((w.alloc (.cells #[.int .i64 1, .int .i64 1, .int .i64 1, .int .i64 4] 30)).alloc (.map #[] 0)).heap[w.heap.size]? = some (.cells #[.int .i64 1, .int .i64 1, .int .i64 1, .int .i64 4] 30) := blk_alloc (blk_new w (.cells #[.int .i64 1, .int .i64 1, .int .i64 1, .int .i64 4] 30)) _
  have gC := blk_keep h2 hC
  have hM2 := hM.below h2
  have hMl := hM.lt
  have hlt := blk_lt hC
  have hm0 : IMap ((w.alloc (.cells #[.int .i64 1, .int .i64 1, .int .i64 1, .int .i64 4] 30)).alloc (.map #[] 0)) (w.heap.size + 1) 0 [] := by
    have := IMap.made (w.alloc (.cells #[.int .i64 1, .int .i64 1, .int .i64 1, .int .i64 4] 30))
    rwa [show (w.alloc (.cells #[.int .i64 1, .int .i64 1, .int .i64 1, .int .i64 4] 30)).heap.size = w.heap.size + 1 by simp] at this
  clear hC hM
  go_enter Tryz.func17, Tryz.ntmps17
  go_upto_region 2 with (first
    | (refine wpList_insertI (n := 0) (l := []) rfl 99 28 (.tmp 7) (.const (.int .i64 0)) (.tmp 9) (by rfl) Tryz.underlying99 (by rfl) (by rfl) (by rfl) hm0 (by decide) (by unfold maxLen; decide) ?_; intro w1 hm1 hc1)
    | (refine wpList_insertI (n := 1) (l := [(0, .func (.func 42) #[.pointer (some ⟨C, 0, none⟩)] #[])]) rfl 99 28 (.tmp 7) (.const (.int .i64 1)) (.tmp 11) (by rfl) Tryz.underlying99 (by rfl) (by rfl) (by rfl) hm1 (by decide) (by unfold maxLen; decide) ?_; intro w2 hm2 hc2)
    | (refine wpList_insertI (n := 2) (l := [(1, .func (.func 43) #[.pointer (some ⟨C, 0, none⟩)] #[]), (0, .func (.func 42) #[.pointer (some ⟨C, 0, none⟩)] #[])]) rfl 99 28 (.tmp 7) (.const (.int .i64 2)) (.tmp 13) (by rfl) Tryz.underlying99 (by rfl) (by rfl) (by rfl) hm2 (by decide) (by unfold maxLen; decide) ?_; intro w3 hm3 hc3)
    | (refine wpList_insertI (n := 3) (l := [(2, .func (.func 44) #[.pointer (some ⟨C, 0, none⟩)] #[]), (1, .func (.func 43) #[.pointer (some ⟨C, 0, none⟩)] #[]), (0, .func (.func 42) #[.pointer (some ⟨C, 0, none⟩)] #[])]) rfl 99 28 (.tmp 7) (.const (.int .i64 5)) (.tmp 15) (by rfl) Tryz.underlying99 (by rfl) (by rfl) (by rfl) hm3 (by decide) (by unfold maxLen; decide) ?_; intro w4 hm4 hc4)
    | (refine wpList_insertI (n := 4) (l := [(5, .func (.func 45) #[.pointer (some ⟨C, 0, none⟩)] #[]), (2, .func (.func 44) #[.pointer (some ⟨C, 0, none⟩)] #[]), (1, .func (.func 43) #[.pointer (some ⟨C, 0, none⟩)] #[]), (0, .func (.func 42) #[.pointer (some ⟨C, 0, none⟩)] #[])]) rfl 99 28 (.tmp 7) (.const (.int .i64 6)) (.tmp 17) (by rfl) Tryz.underlying99 (by rfl) (by rfl) (by rfl) hm4 (by decide) (by unfold maxLen; decide) ?_; intro w5 hm5 hc5)
    | (refine wpList_insertI (n := 5) (l := [(6, .func (.func 46) #[.pointer (some ⟨C, 0, none⟩)] #[]), (5, .func (.func 45) #[.pointer (some ⟨C, 0, none⟩)] #[]), (2, .func (.func 44) #[.pointer (some ⟨C, 0, none⟩)] #[]), (1, .func (.func 43) #[.pointer (some ⟨C, 0, none⟩)] #[]), (0, .func (.func 42) #[.pointer (some ⟨C, 0, none⟩)] #[])]) rfl 99 28 (.tmp 7) (.const (.int .i64 7)) (.tmp 19) (by rfl) Tryz.underlying99 (by rfl) (by rfl) (by rfl) hm5 (by decide) (by unfold maxLen; decide) ?_; intro w6 hm6 hc6)
    | (refine wpList_insertI (n := 6) (l := [(7, .func (.func 46) #[.pointer (some ⟨C, 0, none⟩)] #[]), (6, .func (.func 46) #[.pointer (some ⟨C, 0, none⟩)] #[]), (5, .func (.func 45) #[.pointer (some ⟨C, 0, none⟩)] #[]), (2, .func (.func 44) #[.pointer (some ⟨C, 0, none⟩)] #[]), (1, .func (.func 43) #[.pointer (some ⟨C, 0, none⟩)] #[]), (0, .func (.func 42) #[.pointer (some ⟨C, 0, none⟩)] #[])]) rfl 99 28 (.tmp 7) (.const (.int .i64 8)) (.tmp 21) (by rfl) Tryz.underlying99 (by rfl) (by rfl) (by rfl) hm6 (by decide) (by unfold maxLen; decide) ?_; intro w7 hm7 hc7)
    | (refine wpList_insertI (n := 7) (l := [(8, .func (.func 46) #[.pointer (some ⟨C, 0, none⟩)] #[]), (7, .func (.func 46) #[.pointer (some ⟨C, 0, none⟩)] #[]), (6, .func (.func 46) #[.pointer (some ⟨C, 0, none⟩)] #[]), (5, .func (.func 45) #[.pointer (some ⟨C, 0, none⟩)] #[]), (2, .func (.func 44) #[.pointer (some ⟨C, 0, none⟩)] #[]), (1, .func (.func 43) #[.pointer (some ⟨C, 0, none⟩)] #[]), (0, .func (.func 42) #[.pointer (some ⟨C, 0, none⟩)] #[])]) rfl 99 28 (.tmp 7) (.const (.int .i64 11)) (.tmp 23) (by rfl) Tryz.underlying99 (by rfl) (by rfl) (by rfl) hm7 (by decide) (by unfold maxLen; decide) ?_; intro w8 hm8 hc8)
    | (go_at_call 48; (with_reducible refine (clAt_some w8 C _ _ _).mono ?_); rintro e y8 ⟨⟨v8, rfl⟩, hb8⟩; have hy8 := hm8.below hb8)
    | (refine wpList_insertI (n := 8) (l := [(11, .func (.func 47) #[.pointer (some ⟨C, 0, none⟩)] #[]), (8, .func (.func 46) #[.pointer (some ⟨C, 0, none⟩)] #[]), (7, .func (.func 46) #[.pointer (some ⟨C, 0, none⟩)] #[]), (6, .func (.func 46) #[.pointer (some ⟨C, 0, none⟩)] #[]), (5, .func (.func 45) #[.pointer (some ⟨C, 0, none⟩)] #[]), (2, .func (.func 44) #[.pointer (some ⟨C, 0, none⟩)] #[]), (1, .func (.func 43) #[.pointer (some ⟨C, 0, none⟩)] #[]), (0, .func (.func 42) #[.pointer (some ⟨C, 0, none⟩)] #[])]) rfl 99 28 (.tmp 7) (.const (.int .i64 3)) (.tmp 27) (by rfl) Tryz.underlying99 (by rfl) (by rfl) (by rfl) hy8 (by decide) (by unfold maxLen; decide) ?_; intro w9 hm9 hc9)
    | (go_at_call 48; (with_reducible refine (clAt_some w9 C _ _ _).mono ?_); rintro e y9 ⟨⟨v9, rfl⟩, hb9⟩; have hy9 := hm9.below hb9)
    | (refine wpList_insertI (n := 9) (l := [(3, v8), (11, .func (.func 47) #[.pointer (some ⟨C, 0, none⟩)] #[]), (8, .func (.func 46) #[.pointer (some ⟨C, 0, none⟩)] #[]), (7, .func (.func 46) #[.pointer (some ⟨C, 0, none⟩)] #[]), (6, .func (.func 46) #[.pointer (some ⟨C, 0, none⟩)] #[]), (5, .func (.func 45) #[.pointer (some ⟨C, 0, none⟩)] #[]), (2, .func (.func 44) #[.pointer (some ⟨C, 0, none⟩)] #[]), (1, .func (.func 43) #[.pointer (some ⟨C, 0, none⟩)] #[]), (0, .func (.func 42) #[.pointer (some ⟨C, 0, none⟩)] #[])]) rfl 99 28 (.tmp 7) (.const (.int .i64 4)) (.tmp 31) (by rfl) Tryz.underlying99 (by rfl) (by rfl) (by rfl) hy9 (by decide) (by unfold maxLen; decide) ?_; intro w10 hm10 hc10)
    | (go_at_call 48; (with_reducible refine (clAt_some w10 C _ _ _).mono ?_); rintro e y10 ⟨⟨v10, rfl⟩, hb10⟩; have hy10 := hm10.below hb10)
    | (refine wpList_insertI (n := 10) (l := [(4, v9), (3, v8), (11, .func (.func 47) #[.pointer (some ⟨C, 0, none⟩)] #[]), (8, .func (.func 46) #[.pointer (some ⟨C, 0, none⟩)] #[]), (7, .func (.func 46) #[.pointer (some ⟨C, 0, none⟩)] #[]), (6, .func (.func 46) #[.pointer (some ⟨C, 0, none⟩)] #[]), (5, .func (.func 45) #[.pointer (some ⟨C, 0, none⟩)] #[]), (2, .func (.func 44) #[.pointer (some ⟨C, 0, none⟩)] #[]), (1, .func (.func 43) #[.pointer (some ⟨C, 0, none⟩)] #[]), (0, .func (.func 42) #[.pointer (some ⟨C, 0, none⟩)] #[])]) rfl 99 28 (.tmp 7) (.const (.int .i64 9)) (.tmp 35) (by rfl) Tryz.underlying99 (by rfl) (by rfl) (by rfl) hy10 (by decide) (by unfold maxLen; decide) ?_; intro w11 hm11 hc11)
    | (go_at_call 48; (with_reducible refine (clAt_some w11 C _ _ _).mono ?_); rintro e y11 ⟨⟨v11, rfl⟩, hb11⟩; have hy11 := hm11.below hb11)
    | (refine wpList_insertI (n := 11) (l := [(9, v10), (4, v9), (3, v8), (11, .func (.func 47) #[.pointer (some ⟨C, 0, none⟩)] #[]), (8, .func (.func 46) #[.pointer (some ⟨C, 0, none⟩)] #[]), (7, .func (.func 46) #[.pointer (some ⟨C, 0, none⟩)] #[]), (6, .func (.func 46) #[.pointer (some ⟨C, 0, none⟩)] #[]), (5, .func (.func 45) #[.pointer (some ⟨C, 0, none⟩)] #[]), (2, .func (.func 44) #[.pointer (some ⟨C, 0, none⟩)] #[]), (1, .func (.func 43) #[.pointer (some ⟨C, 0, none⟩)] #[]), (0, .func (.func 42) #[.pointer (some ⟨C, 0, none⟩)] #[])]) rfl 99 28 (.tmp 7) (.const (.int .i64 10)) (.tmp 39) (by rfl) Tryz.underlying99 (by rfl) (by rfl) (by rfl) hy11 (by decide) (by unfold maxLen; decide) ?_; intro w12 hm12 hc12)
    | (go_at_call 48; (with_reducible refine (clAt_some w12 C _ _ _).mono ?_); rintro e y12 ⟨⟨v12, rfl⟩, hb12⟩; have hy12 := hm12.below hb12)
    | (refine wpList_insertI (n := 12) (l := [(10, v11), (9, v10), (4, v9), (3, v8), (11, .func (.func 47) #[.pointer (some ⟨C, 0, none⟩)] #[]), (8, .func (.func 46) #[.pointer (some ⟨C, 0, none⟩)] #[]), (7, .func (.func 46) #[.pointer (some ⟨C, 0, none⟩)] #[]), (6, .func (.func 46) #[.pointer (some ⟨C, 0, none⟩)] #[]), (5, .func (.func 45) #[.pointer (some ⟨C, 0, none⟩)] #[]), (2, .func (.func 44) #[.pointer (some ⟨C, 0, none⟩)] #[]), (1, .func (.func 43) #[.pointer (some ⟨C, 0, none⟩)] #[]), (0, .func (.func 42) #[.pointer (some ⟨C, 0, none⟩)] #[])]) rfl 99 28 (.tmp 7) (.const (.int .i64 12)) (.tmp 43) (by rfl) Tryz.underlying99 (by rfl) (by rfl) (by rfl) hy12 (by decide) (by unfold maxLen; decide) ?_; intro w13 hm13 hc13)
    | (go_at_call 48; (with_reducible refine (clAt_some w13 C _ _ _).mono ?_); rintro e y13 ⟨⟨v13, rfl⟩, hb13⟩; have hy13 := hm13.below hb13)
    | (refine wpList_insertI (n := 13) (l := [(12, v12), (10, v11), (9, v10), (4, v9), (3, v8), (11, .func (.func 47) #[.pointer (some ⟨C, 0, none⟩)] #[]), (8, .func (.func 46) #[.pointer (some ⟨C, 0, none⟩)] #[]), (7, .func (.func 46) #[.pointer (some ⟨C, 0, none⟩)] #[]), (6, .func (.func 46) #[.pointer (some ⟨C, 0, none⟩)] #[]), (5, .func (.func 45) #[.pointer (some ⟨C, 0, none⟩)] #[]), (2, .func (.func 44) #[.pointer (some ⟨C, 0, none⟩)] #[]), (1, .func (.func 43) #[.pointer (some ⟨C, 0, none⟩)] #[]), (0, .func (.func 42) #[.pointer (some ⟨C, 0, none⟩)] #[])]) rfl 99 28 (.tmp 7) (.const (.int .i64 13)) (.tmp 47) (by rfl) Tryz.underlying99 (by rfl) (by rfl) (by rfl) hy13 (by decide) (by unfold maxLen; decide) ?_; intro w14 hm14 hc14)
    | (go_at_call 48; (with_reducible refine (clAt_some w14 C _ _ _).mono ?_); rintro e y14 ⟨⟨v14, rfl⟩, hb14⟩; have hy14 := hm14.below hb14)
    | (refine wpList_insertI (n := 14) (l := [(13, v13), (12, v12), (10, v11), (9, v10), (4, v9), (3, v8), (11, .func (.func 47) #[.pointer (some ⟨C, 0, none⟩)] #[]), (8, .func (.func 46) #[.pointer (some ⟨C, 0, none⟩)] #[]), (7, .func (.func 46) #[.pointer (some ⟨C, 0, none⟩)] #[]), (6, .func (.func 46) #[.pointer (some ⟨C, 0, none⟩)] #[]), (5, .func (.func 45) #[.pointer (some ⟨C, 0, none⟩)] #[]), (2, .func (.func 44) #[.pointer (some ⟨C, 0, none⟩)] #[]), (1, .func (.func 43) #[.pointer (some ⟨C, 0, none⟩)] #[]), (0, .func (.func 42) #[.pointer (some ⟨C, 0, none⟩)] #[])]) rfl 99 28 (.tmp 7) (.const (.int .i64 14)) (.tmp 51) (by rfl) Tryz.underlying99 (by rfl) (by rfl) (by rfl) hy14 (by decide) (by unfold maxLen; decide) ?_; intro w15 hm15 hc15))
  have k1 := hc1
  have k2 := k1.trans hc2 (fun x hx => .inl hx)
  have k3 := k2.trans hc3 (fun x hx => .inl hx)
  have k4 := k3.trans hc4 (fun x hx => .inl hx)
  have k5 := k4.trans hc5 (fun x hx => .inl hx)
  have k6 := k5.trans hc6 (fun x hx => .inl hx)
  have k7 := k6.trans hc7 (fun x hx => .inl hx)
  have k8 := k7.trans hc8 (fun x hx => .inl hx)
  have l8 := k8.below hb8
  have k9 := l8.trans hc9 (fun x hx => .inl hx)
  have l9 := k9.below hb9
  have k10 := l9.trans hc10 (fun x hx => .inl hx)
  have l10 := k10.below hb10
  have k11 := l10.trans hc11 (fun x hx => .inl hx)
  have l11 := k11.below hb11
  have k12 := l11.trans hc12 (fun x hx => .inl hx)
  have l12 := k12.below hb12
  have k13 := l12.trans hc13 (fun x hx => .inl hx)
  have l13 := k13.below hb13
  have k14 := l13.trans hc14 (fun x hx => .inl hx)
  have l14 := k14.below hb14
  have k15 := l14.trans hc15 (fun x hx => .inl hx)
  have HLK : (Instr.lookup 99 (.map (some (w.heap.size + 1))) (.int .i64 1) false).run Tryz.prog w15 = .ok (.func (.func 43) #[.pointer (some ⟨C, 0, none⟩)] #[]) w15 := IMap.look hm15 Tryz.underlying99 (z := .nilFunc) (by kernel_rfl) 1 (by decide)
  have hnn : ∀ W, (binOp .eql 28 (.func (.func 43) #[.pointer (some ⟨C, 0, none⟩)] #[]) .nilFunc).run Tryz.prog W = .ok (.bool false) W := fun _ => by kernel_rfl
  have gX15 := k15.keep gX (by simp)
  have gC15 := k15.keep gC (by simp; omega)
  have hM15 := hM2.chg k15 (by simp; omega)
  have hb15 : Below w.heap.size w w15 := h2.trans (k15.to_below (fun x hx => by rw [List.mem_singleton] at hx; omega) h2.size)
  obtain ⟨x0, x1, x2, x3, xf, xlt⟩ := box4 gX15
  clear hmm h1 gX gC hM2 hm0
  go_wp2_with (go_at_call 43; refine (addHost_ok C M _ gC15 hM15 hne).mono ?_; rintro e w16 ⟨rfl, m16, ⟨H, hH1, hH2, hH3, hH4⟩, hc16⟩)
  go_ret
  exact ⟨rfl, m16, ⟨H, Nat.le_trans hb15.size hH1, hH2, hH3, hH4⟩, Chg.pre hb15 hc16⟩
set_option maxRecDepth 100000 in
set_option maxHeartbeats 6400000 in
theorem clUp_ok (C M H : Nat) (w : World) (hC : w.cell? ⟨C, 13, none⟩ = some (.map (some M))) (hM : IMap w M 1 [(1, .pointer (some ⟨H, 0, none⟩))]) (hH : w.cell? ⟨H, 1, none⟩ = some (.bool true)) : Calls Tryz.prog 22 #[.pointer (some ⟨C, 0, none⟩), .int .i64 1] w fun e w' => e = .returned (.bool true) ∧ w' = w := by
  have HLK : (Instr.lookup 84 (.map (some M)) (.int .i64 1) false).run Tryz.prog w = .ok (.pointer (some ⟨H, 0, none⟩)) w := IMap.look hM Tryz.underlying84 (z := .pointer none) (by kernel_rfl) 1 (by decide)
  go_enter Tryz.func22, Tryz.ntmps22
  go_wp2
  go_ret
  exact ⟨rfl, rfl⟩
set_option maxRecDepth 100000 in
set_option maxHeartbeats 6400000 in
theorem topAwake_any (w : World) : Calls Tryz.prog 5 #[] w fun e w' => e = .returned (.bool true) ∧ Below w.heap.size w w' := by
  have HN : Hid (∀ W, Calls Tryz.prog 6 #[.int .i64 1] W (RetGr 1 W)) := fun W => gnew_any 1 W (by decide) (by decide)
  have HD : Hid (∀ W G L, GAt W G L (newGr 1) → Calls Tryz.prog 7 #[.pointer (some ⟨G, 0, none⟩), itV 0 1 0 0] W (RetE (⟨[(exM, syncV (saved exM vt0))], []⟩, 0) G L W)) := fun W G L h => by
    have := do_any exGrOk h 0 1 0 0 (Nat.zero_le _)
    rwa [exGr] at this
  generalize hgx : (⟨[(exM, syncV (saved exM vt0))], []⟩ : Gr) = gx at HD
  have hx0 : gx.ms[0]? = some (exM, syncV (saved exM vt0)) := by subst hgx; rfl
  have hx1 : gx.ms.length = 1 := by subst hgx; rfl
  have HSE : Hid (∀ W G L, GAt W G L gx → Calls Tryz.prog 14 #[.pointer (some ⟨G, 0, none⟩), .int .i64 1] W (RetRow 82 7 1 (ensV (settledE exM)) W)) := fun W G L h => by
    have := gsettled_any h (by rw [hx1]; decide) hx0 (by decide) (by decide) (by decide)
    rw [show (settledE exM).length = 1 from rfl] at this
    simpa using this
  generalize ensV (settledE exM) = xs2 at HSE
  clear hgx hx0 hx1
  go_enter Tryz.func5, Tryz.ntmps5
  go_wp2_with (first
    | (go_at_call 21; refine (plain_any _).mono ?_; rintro e w1 ⟨rfl, hb1⟩)
    | (go_at_call 16; refine (clNew_plain _).mono ?_; rintro e w2 ⟨C, M, rfl, gC2, hM2, hM2l, hMC, hb2⟩; have hw2 := hb1.trans (hb2.mono hb1.size); have hCl := blk_lt gC2; have hs1 := hb1.size)
    | (go_at_call 6; refine (HN.out _).mono ?_; rintro e w3 ⟨G, L, rfl, h3, hf3, hb3⟩; have gC3 := blk_keep hb3 gC2; have hM3 := hM2.below hb3; have hw3 := hw2.trans (hb3.mono hw2.size); have hCg : ∀ x ∈ gall G L, x ∉ [C, M] := (fun x hx hc => by have := hf3 x hx; simp at hc; omega); have hgl3 := h3.gltAll)
    | (go_at_call 17; refine (clDoAdd_ok C M _ gC3 hM3 (by omega)).mono ?_; rintro e w4 ⟨rfl, m4, ⟨H, hH1, hH2, hH3, hH4⟩, hc4⟩; have h4 := h3.chgOut hc4 hCg; have hw4 : Below w.heap.size w w4 := hw3.trans (hc4.to_below (fun x hx => by simp at hx; omega) hw3.size); have HD4 := Lib.hid (HD.out _ _ _ h4); have hC4 : C < w4.heap.size := Nat.lt_of_lt_of_le (blk_lt gC3) hc4.size)
    | (go_at_call 7; refine HD4.out.mono ?_; rintro e w5 ⟨rfl, L5, h5, S5⟩; have m5 := (S5.chg.cell (o := 13) hC4 (fun hc => hCg _ hc (by simp))).trans m4; have hM5 := hH3.chg S5.chg (fun hc => hCg _ hc (by simp)); have hH5 := (S5.chg.cell (o := 1) hH2 (fun hc => by have := hgl3 _ hc; omega)).trans hH4; have hw5 : Below w.heap.size w w5 := hw4.trans (S5.chg.to_below (fun x hx => by have := hf3 x hx; have := hw2.size; omega) hw4.size); have HS5 := Lib.hid (HSE.out _ _ _ h5))
    | (go_at_call 22; refine (clUp_ok C M H _ m5 hM5 hH5).mono ?_; rintro e wx ⟨rfl, hwx⟩; subst hwx)
    | (go_at_call 14; refine HS5.out.mono ?_; rintro e w6 ⟨A6, c6, rfl, own6, hb6⟩; have hw6 := hw5.trans (hb6.mono hw5.size)))
  go_ret
  exact ⟨rfl, hw6⟩
end Go.Proofs.YthjdbmfobmnnlaaGreat
