/-
  Layer 8: the chapter's examples.
-/
import Derived.Test.YtnbljcbfnplbaaaVaultN
namespace Go.Proofs.Ytnbljcbfnplbaaa
open Go.RowKit
set_option linter.unusedVariables false
def en1 : En := (1, 0, 0, 0, 0, 0, 0)
theorem en1_wf : ∀ e ∈ [en1], EnWf e := by
  intro e he
  simp only [List.mem_cons, List.not_mem_nil, or_false] at he
  subst he
  intro n hn
  unfold numsOf en1 at hn
  simp only [List.mem_cons, List.not_mem_nil, or_false] at hn
  rcases hn with rfl | rfl | rfl | rfl | rfl | rfl | rfl | rfl <;> decide
theorem en1_fair : ∀ e ∈ [en1], EnFair e := by
  intro e he
  simp only [List.mem_cons, List.not_mem_nil, or_false] at he
  subst he
  intro n hn
  unfold en1 at hn
  simp only [List.mem_cons, List.not_mem_nil, or_false] at hn
  rcases hn with rfl | rfl | rfl | rfl | rfl | rfl <;> decide
theorem en1_save : saveE vt0 1 2 0 0 [en1] = 0 := by
  rw [saveE_ok ⟨by decide +kernel, by decide +kernel, rfl, en1_fair⟩, if_neg (by decide +kernel)]
def vtA : Vt := saveV vt0 1 2 0 0 [en1]
theorem vtA_eq : vtA = (saveB st0 1 2 [en1], 0, (1, 2, [en1])) := saveV_eq en1_save
theorem vtA_ok : VtOk vtA := saveV_ok vt0_ok 1 2 0 0 [en1]
theorem vtA_le : vtA.1.length ≤ 65536 := saveV_le (Nat.zero_le _)
theorem vtA_crash : crashV vtA 0 = vt0 := by
  have hn : crashN vtA 0 = 0 := by unfold crashN; rw [vtA_eq]; simp
  unfold crashV
  rw [hn, List.take_zero]
  rfl
theorem vtA_sync : crashV (syncV vtA) 0 = syncV vtA := crash_synced (syncV_ok vtA_ok) rfl 0
/-- A new disk; its rows lie beyond any base. -/
theorem newB_any (W : World) (n : Nat) (hn : W.heap.size = n) : Calls Try.prog 10 #[] W fun e w' => e = .returned (.pointer (some ⟨n, 0, none⟩)) ∧ (∀ base, VtAt w' n base vt0) ∧ w'.heap.size = n + 1 ∧ Below W.heap.size W w' := by
  subst hn
  refine (new_any W).mono ?_
  rintro e w' ⟨rfl, ⟨D, cd, A, c, g, o1, o2⟩, h2, h3⟩
  refine ⟨rfl, fun base => ?_, h2, h3⟩
  have e1 : Value.slice D vt0.1.length cd = .slice none 0 0 := by
    rcases o1.2 with ⟨h, _⟩ | ⟨g', c', cur, hv, hg, hh, _⟩
    · exact h
    · exfalso
      have hl : g' < w'.heap.size := blk_lt hh
      omega
  have e2 : Value.slice A vt0.2.2.2.2.length c = .slice none 0 0 := by
    rcases o2.2 with ⟨h, _⟩ | ⟨g', c', cur, hv, hg, hh, _⟩
    · exact h
    · exfalso
      have hl : g' < w'.heap.size := blk_lt hh
      omega
  refine ⟨D, cd, A, c, g, ?_, ?_⟩
  · rw [e1]; exact World.ownsRow_nil _ _ _ _
  · rw [e2]; exact World.ownsRow_nil _ _ _ _
theorem RowAt.only {R : Nat} {w w' : World} {A : Option Addr} {xs : List Value} (h : RowAt w A xs) (hb : Only R w w') (hf : ∀ b o, A = some ⟨b, o, none⟩ → b ≠ R) : RowAt w' A xs := by
  rcases h with h | ⟨b, off, ha, hlt, hc⟩
  · exact .inl h
  · refine .inr ⟨b, off, ha, Nat.lt_of_lt_of_le hlt hb.size, fun i u hi => ?_⟩
    rw [← hc i u hi]
    simp only [World.cell?, hb.block b hlt (hf b off ha)]
theorem LogIn.only {R : Nat} {w w' : World} {a : Option Addr} {cap : Nat} {l : List En} (h : LogIn w a cap l) (hb : Only R w w') (hf : ∀ b o, a = some ⟨b, o, none⟩ → b ≠ R) : LogIn w' a cap l := ⟨h.row.only hb hf, h.cap, h.none_, h.max⟩
theorem row_newB (w : World) (o : Obj) (cs : Array Value) (t : TypeId) : RowAt ((w.alloc o).alloc (.cells cs t)) (some ⟨w.heap.size + 1, 0, none⟩) cs.toList := by
  have := RowAt.new (w.alloc o) cs t
  simpa using this
set_option maxRecDepth 100000 in
set_option maxHeartbeats 6400000 in
theorem vaultAwake_any (w : World) : Calls Try.prog 9 #[] w fun e w' => e = .returned (.bool true) ∧ Below w.heap.size w w' := by
  have HN : Hid (∀ W n, W.heap.size = n → Calls Try.prog 10 #[] W fun e w' => e = .returned (.pointer (some ⟨n, 0, none⟩)) ∧ (∀ base, VtAt w' n base vt0) ∧ w'.heap.size = n + 1 ∧ Below W.heap.size W w') := newB_any
  have HSV : Hid (∀ W V base a cap, VtAt W V base vt0 → V < base → base ≤ W.heap.size → LogIn W a cap [en1] → Calls Try.prog 11 #[.pointer (some ⟨V, 0, none⟩), ballotV 1 2, logV 0 0 a 1 cap] W fun e w' => e = .returned (.int .i64 0) ∧ VtAt w' V base vtA ∧ Only V W w') := fun W V base a cap h1 h2 h3 h4 => by
    have := save_any V base vt0 1 2 0 0 a cap [en1] W h1 h2 h3 h4 en1_wf vt0_ok (Nat.zero_le _)
    rwa [en1_save] at this
  have HSY : Hid (∀ W V base, VtAt W V base vtA → V < base → Calls Try.prog 12 #[.pointer (some ⟨V, 0, none⟩)] W fun e w' => e = .returned (.tuple #[]) ∧ VtAt w' V base (syncV vtA) ∧ Only V W w') := fun W V base h1 h2 => sync_any V base vtA W h1 h2
  have HC1 : Hid (∀ W V base, VtAt W V base vtA → V < base → base ≤ W.heap.size → Calls Try.prog 13 #[.pointer (some ⟨V, 0, none⟩), .int .i64 0] W fun e w' => e = .returned (.tuple #[]) ∧ VtAt w' V base vt0 ∧ Only V W w') := fun W V base h1 h2 h3 => by
    have := crash_any V base vtA 0 W h1 h2 h3 vtA_ok (Nat.le_trans vtA_le (by omega))
    rwa [vtA_crash] at this
  have HC2 : Hid (∀ W V base, VtAt W V base (syncV vtA) → V < base → base ≤ W.heap.size → Calls Try.prog 13 #[.pointer (some ⟨V, 0, none⟩), .int .i64 0] W fun e w' => e = .returned (.tuple #[]) ∧ VtAt w' V base (syncV vtA) ∧ Only V W w') := fun W V base h1 h2 h3 => by
    have := crash_any V base (syncV vtA) 0 W h1 h2 h3 (syncV_ok vtA_ok) (Nat.le_trans vtA_le (by omega))
    rwa [vtA_sync] at this
  have HL1 : Hid (∀ W V base, VtAt W V base vt0 → V < base → Calls Try.prog 14 #[.pointer (some ⟨V, 0, none⟩)] W (RetLoad st0 W)) := fun W V base h1 h2 => load_any V base vt0 W h1 h2 (Nat.zero_le _)
  have HL2 : Hid (∀ W V base, VtAt W V base (syncV vtA) → V < base → Calls Try.prog 14 #[.pointer (some ⟨V, 0, none⟩)] W (RetLoad (1, 2, [en1]) W)) := fun W V base h1 h2 => by
    have := load_any V base (syncV vtA) W h1 h2 (by show (vtA.2.2.2.2).length ≤ _; rw [vtA_eq]; exact Nat.le_of_ble_eq_true rfl)
    have e : (syncV vtA).2.2 = (1, 2, [en1]) := by show vtA.2.2 = _; rw [vtA_eq]
    rwa [e] at this
  go_enter Try.func9, Try.ntmps9
  go_upto_region 3 with fail
  obtain ⟨⟨gB, gE, gL⟩, hsz3, hw0⟩ := alloc3 w (.cells #[.int .i64 1, .int .i64 2] 23) (.cells #[.int .i64 1, .int .i64 0, .int .i64 0, .int .i64 0, .int .i64 0, .int .i64 0, .int .i64 0] 41) (.cells #[.int .i64 0, .int .i64 0, .slice (some ⟨w.heap.size + 1, 0, none⟩) 1 1] 26)
  have hlog : LogIn (((w.alloc (.cells #[.int .i64 1, .int .i64 2] 23)).alloc (.cells #[.int .i64 1, .int .i64 0, .int .i64 0, .int .i64 0, .int .i64 0, .int .i64 0, .int .i64 0] 41)).alloc (.cells #[.int .i64 0, .int .i64 0, .slice (some ⟨w.heap.size + 1, 0, none⟩) 1 1] 26)) (some ⟨w.heap.size + 1, 0, none⟩) 1 [en1] := ⟨RowAt.alloc (row_newB w (.cells #[.int .i64 1, .int .i64 2] 23) #[.int .i64 1, .int .i64 0, .int .i64 0, .int .i64 0, .int .i64 0, .int .i64 0, .int .i64 0] 41) _, Nat.le_refl _, (fun h => by cases h), by unfold maxLen; exact Nat.le_of_ble_eq_true rfl⟩
  generalize ((w.alloc (.cells #[.int .i64 1, .int .i64 2] 23)).alloc (.cells #[.int .i64 1, .int .i64 0, .int .i64 0, .int .i64 0, .int .i64 0, .int .i64 0, .int .i64 0] 41)).alloc (.cells #[.int .i64 0, .int .i64 0, .slice (some ⟨w.heap.size + 1, 0, none⟩) 1 1] 26) = W3 at *
  generalize hF : w.heap.size = F at *
  obtain ⟨bc0, bc1, _, _, blt⟩ := box2 gB
  obtain ⟨lc0, lc1, lc2, _, _, _, llt⟩ := box3 gL
  go_wp2_with (first
    | (go_at_call 10; refine (HN.out _ _ hszN).mono ?_; rintro e w5 ⟨rfl, hv2, hszM, hb5⟩; have hw5 := hw4.trans (hb5.mono hw4.size); replace hv1 := fun base => (hv1 base).below hb5; replace gB := blk_keep hb5 gB; replace gL := blk_keep hb5 gL; replace hlog := hlog.below hb5; have hV1 := hv1 (F + 5); have hV2 := hv2 (F + 5); clear hv1 hv2; obtain ⟨bc0, bc1, _, _, blt⟩ := box2 gB; obtain ⟨lc0, lc1, lc2, _, _, _, llt⟩ := box3 gL)
    | (go_at_call 10; refine (HN.out _ _ hsz3).mono ?_; rintro e w4 ⟨rfl, hv1, hszN, hb4⟩; have hw4 := hb4; replace gB := blk_keep hb4 gB; replace gL := blk_keep hb4 gL; replace hlog := hlog.below hb4; obtain ⟨bc0, bc1, _, _, blt⟩ := box2 gB; obtain ⟨lc0, lc1, lc2, _, _, _, llt⟩ := box3 gL)
    | (go_at_call 11; refine (HSV.out _ (F + 4) (F + 5) _ _ hV2b (by omega) (by omega) hlog6).mono ?_; rintro e w7 ⟨rfl, hV2c, hO7⟩; have hV1c := hV1b.only hO7 (by omega) (by omega); have hsz7 := hO7.size; have hw7 := hO7.below hw6 (by omega) (by omega); clear hlog6 hV2b hV1b; replace gB := hO7.keep gB (by omega); replace gL := hO7.keep gL (by omega); obtain ⟨bc0, bc1, _, _, blt⟩ := box2 gB; obtain ⟨lc0, lc1, lc2, _, _, _, llt⟩ := box3 gL)
    | (go_at_call 11; refine (HSV.out _ (F + 3) (F + 5) _ _ hV1 (by omega) (by omega) hlog).mono ?_; rintro e w6 ⟨rfl, hV1b, hO6⟩; have hV2b := hV2.only hO6 (by omega) (by omega); have hsz6 := hO6.size; have hw6 := hO6.below hw5 (by omega) (by omega); have hlog6 := hlog.only hO6 (fun b o h => by cases h; omega); clear hlog hV1 hV2; replace gB := hO6.keep gB (by omega); replace gL := hO6.keep gL (by omega); obtain ⟨bc0, bc1, _, _, blt⟩ := box2 gB; obtain ⟨lc0, lc1, lc2, _, _, _, llt⟩ := box3 gL)
    | (go_at_call 12; refine (HSY.out _ (F + 4) (F + 5) hV2c (by omega)).mono ?_; rintro e w8 ⟨rfl, hV2d, hO8⟩; have hV1d := hV1c.only hO8 (by omega) (by omega); have hsz8 := hO8.size; have hw8 := hO8.below hw7 (by omega) (by omega); clear hV2c hV1c; replace gB := hO8.keep gB (by omega); replace gL := hO8.keep gL (by omega); obtain ⟨bc0, bc1, _, _, blt⟩ := box2 gB; obtain ⟨lc0, lc1, lc2, _, _, _, llt⟩ := box3 gL)
    | (go_at_call 13; refine (HC2.out _ (F + 4) (F + 5) hV2e (by omega) (by omega)).mono ?_; rintro e w10 ⟨rfl, hV2f, hO10⟩; have hV1f := hV1e.only hO10 (by omega) (by omega); have hsz10 := hO10.size; have hw10 := hO10.below hw9 (by omega) (by omega); clear hV1e hV2e; replace gB := hO10.keep gB (by omega); replace gL := hO10.keep gL (by omega); obtain ⟨bc0, bc1, _, _, blt⟩ := box2 gB; obtain ⟨lc0, lc1, lc2, _, _, _, llt⟩ := box3 gL)
    | (go_at_call 13; refine (HC1.out _ (F + 3) (F + 5) hV1d (by omega) (by omega)).mono ?_; rintro e w9 ⟨rfl, hV1e, hO9⟩; have hV2e := hV2d.only hO9 (by omega) (by omega); have hsz9 := hO9.size; have hw9 := hO9.below hw8 (by omega) (by omega); clear hV1d hV2d; replace gB := hO9.keep gB (by omega); replace gL := hO9.keep gL (by omega); obtain ⟨bc0, bc1, _, _, blt⟩ := box2 gB; obtain ⟨lc0, lc1, lc2, _, _, _, llt⟩ := box3 gL)
    | (go_at_call 14; refine (HL2.out _ (F + 4) (F + 5) hV2g (by omega)).mono ?_; rintro e w12 ⟨A12, c12, rfl, own12, hb12⟩; have hw12 := hwX.trans (hb12.mono hwX.size); have gX6 := blk_keep hb12 gX6'; have gX7 := blk_keep hb12 gX7'; have gB12 := blk_keep hb12 gBX; obtain ⟨xc0, xc1, _, _, xlt⟩ := box2 gX6; obtain ⟨yc0, yc1, yc2, _, _, _, ylt⟩ := box3 gX7; obtain ⟨bc0, bc1, _, _, blt⟩ := box2 gB12; obtain ⟨eb, eoff, rfl, elt, ec⟩ := RowAt.at (RowAt.of_own own12) (k := 0) (u := .int .i64 1) rfl; rw [Nat.add_zero] at ec)
    | (go_at_call 14; refine (HL1.out _ (F + 3) (F + 5) hV1f (by omega)).mono ?_; rintro e w11 ⟨A11, c11, rfl, own11, hb11⟩; have hw11 := hw10.trans (hb11.mono hw10.size); have hV2g := (hV2f.below hb11).below (below2 w11 (.cells #[.int .i64 0, .int .i64 0] 23) (.cells #[.int .i64 0, .int .i64 0, .slice A11 0 c11] 26)); have hwX := hw11.trans ((below2 w11 (.cells #[.int .i64 0, .int .i64 0] 23) (.cells #[.int .i64 0, .int .i64 0, .slice A11 0 c11] 26)).mono hw11.size); have gX6' := alloc2_fst w11 (.cells #[.int .i64 0, .int .i64 0] 23) (.cells #[.int .i64 0, .int .i64 0, .slice A11 0 c11] 26); have gX7' := alloc2_snd w11 (.cells #[.int .i64 0, .int .i64 0] 23) (.cells #[.int .i64 0, .int .i64 0, .slice A11 0 c11] 26); have gBX := blk_keep (below2 w11 (.cells #[.int .i64 0, .int .i64 0] 23) (.cells #[.int .i64 0, .int .i64 0, .slice A11 0 c11] 26)) (blk_keep hb11 gB); clear hV1f hV2f)
    | fail)
  go_ret
  refine ⟨rfl, ?_⟩
  subst hF
  exact hw0.trans ((hw12.trans ((below2 w12 _ _).mono hw12.size)).mono hw0.size)
end Go.Proofs.Ytnbljcbfnplbaaa
