/-
  Layer 2's laws, first part: the chapter's example, FieldsSizes.
-/
import Derived.Test.YtipngfdibcapjaaFieldsF
namespace Go.Proofs.Ytipngfdibcapjaa
open Go.RowKit
set_option linter.unusedVariables false
set_option maxHeartbeats 1600000 in
theorem fieldsAwake_any (w : World) : Calls Try.prog 11 #[] w fun e w' => e = .returned (.bool true) ∧ Below w.heap.size w w' := by
  have HP : Hid (∀ W c d, CellsI W (some ⟨c, 0, none⟩) [300] → Calls Try.prog 12 #[.agg #[.slice (some ⟨c, 0, none⟩) 1 1, .slice none 0 d]] W (RetRowE 5 1 6 (([1, 2, 1, 44, 0, 0] : List UInt8).map byteV) 0 W)) := fun W c d h => by
    have := pack_any (some ⟨c, 0, none⟩) 1 [300] none d [] W ⟨h, by decide, (fun h => by cases h), by decide⟩ RowAt.nil (fun _ => rfl)
    rwa [show packB ([300], []) = [1, 2, 1, 44, 0, 0] by decide +kernel, show packE ([300], []) = 0 by decide +kernel] at this
  have HS : Hid (∀ W, Calls Try.prog 14 #[.int .i64 256] W fun e w' => e = .returned (.int .i64 2) ∧ w' = W) := fun W => by
    have := size_any 256 (by decide) W
    rwa [show sizeI 256 = 2 by decide +kernel] at this
  go_enter Try.func11, Try.ntmps11
  go_wp2_with (first
    | (go_at_call 12; refine (HP.out _ _ _ (RowAt.new w #[.int .i64 300] 3)).mono ?_; rintro e w2 ⟨a2, c2, rfl, hown2, hd2⟩; have hcv : (convert 23 9 (.slice a2 6 c2)).run Try.prog w2 = .ok (.string ⟨#[1, 2, 1, 44, 0, 0]⟩) w2 := run_convert_cells (bs := [1, 2, 1, 44, 0, 0]) c2 w2 (RowAt.of_own hown2) (own_none hown2))
    | (go_at_call 14; refine (HS.out _).mono ?_; rintro e w3 ⟨rfl, rfl⟩))
  go_ret
  exact ⟨rfl, alloc_below hd2⟩
set_option maxHeartbeats 1600000 in
theorem fieldsSizes_walk (a b : Int) (ha : (Lit.int .i64 a).wf = true) (hb : (Lit.int .i64 b).wf = true) (w : World) :
    Calls Try.prog 4 #[.int .i64 a, .int .i64 b] w fun e w' => e = .returned (.bool true) ∧ Below w.heap.size w w' := by
  have HA : Hid (∀ W, Calls Try.prog 14 #[.int .i64 a] W fun e w' => e = .returned (.int .i64 (sizeI a)) ∧ w' = W) := fun W => size_any a ha W
  have HB : Hid (∀ W, Calls Try.prog 14 #[.int .i64 b] W fun e w' => e = .returned (.int .i64 (sizeI b)) ∧ w' = W) := fun W => size_any b hb W
  have HBs := Lib.hid (rfl : sizeI b = sizeI b)
  by_cases h1 : a < 0
  · rw [sizeI_bad (.inl h1)] at HA
    generalize sizeI b = y at HB
    go_enter Try.func4, Try.ntmps4
    go_wp2_with (first
      | (go_at_call 11; refine (fieldsAwake_any _).mono ?_; rintro e w1 ⟨rfl, hd1⟩)
      | (go_at_call_of 14 (Value.int IntKind.i64 a); refine (HA.out _).mono ?_; rintro e w3 ⟨rfl, rfl⟩)
      | (go_at_call_of 14 (Value.int IntKind.i64 b); refine (HB.out _).mono ?_; rintro e w3 ⟨rfl, rfl⟩))
    go_ret
    exact ⟨rfl, hd1⟩
  · by_cases h2 : 72057594037927936 ≤ a
    · rw [sizeI_bad (.inr h2)] at HA
      generalize sizeI b = y at HB
      go_enter Try.func4, Try.ntmps4
      go_wp2_with (first
        | (go_at_call 11; refine (fieldsAwake_any _).mono ?_; rintro e w1 ⟨rfl, hd1⟩)
        | (go_at_call_of 14 (Value.int IntKind.i64 a); refine (HA.out _).mono ?_; rintro e w3 ⟨rfl, rfl⟩)
        | (go_at_call_of 14 (Value.int IntKind.i64 b); refine (HB.out _).mono ?_; rintro e w3 ⟨rfl, rfl⟩))
      go_ret
      exact ⟨rfl, hd1⟩
    · obtain ⟨hs, h7⟩ := sizeI_ok (by omega) (show a < 72057594037927936 by omega)
      rw [hs] at HA
      have hp := dsz_pow _ a.toNat rfl (by omega)
      have hm : Hid ((decide (b < a) || decide (72057594037927936 ≤ b) || decide ((dsz a.toNat : Int) ≤ sizeI b)) = true) := by
        by_cases h3 : b < a
        · rw [Hid, decide_eq_true h3]; rfl
        · by_cases h4 : 72057594037927936 ≤ b
          · rw [Hid, decide_eq_true h4]; simp
          · rw [Hid, (sizeI_ok (n := b) (by omega) (by omega)).1]
            have := dsz_mono (a := a.toNat) (b := b.toNat) (by omega) (by omega)
            rw [decide_eq_true (by omega : (dsz a.toNat : Int) ≤ dsz b.toNat)]; simp
      have h1b : decide (a < 0) = false := decide_eq_false h1
      have h2b : decide (72057594037927936 ≤ a) = false := decide_eq_false h2
      generalize dsz a.toNat = X at HA hp h7 hm
      generalize sizeI b = y at HB hm
      have HP : Hid (0 ≤ a) := by rw [Hid]; omega
      clear hs h1 h2
      have hX : X = 0 ∨ X = 1 ∨ X = 2 ∨ X = 3 ∨ X = 4 ∨ X = 5 ∨ X = 6 ∨ X = 7 := by omega
      clear h7
      rcases hX with rfl | rfl | rfl | rfl | rfl | rfl | rfl | rfl
      · have hlt : a = 0 := by have := HP.out; have := hp.1; simp at this; omega
        subst hlt
        clear hp HP h1b h2b
        go_enter Try.func4, Try.ntmps4
        go_wp2_with (first
          | (go_at_call 11; refine (fieldsAwake_any _).mono ?_; rintro e w1 ⟨rfl, hd1⟩)
          | (go_at_call_of 14 (Value.int IntKind.i64 0); refine (HA.out _).mono ?_; rintro e w3 ⟨rfl, rfl⟩)
          | (go_at_call_of 14 (Value.int IntKind.i64 b); refine (HB.out _).mono ?_; rintro e w3 ⟨rfl, rfl⟩))
        all_goals (go_ret; first | exact ⟨rfl, hd1⟩ | exact ⟨ret_bool (by simpa using hm.out), hd1⟩)
      · have hlt : decide (a < 256) = true := decide_eq_true (by have := hp.1; have := HP.out; omega)
        have hge : decide (1 ≤ a) = true := decide_eq_true (by have := hp.2 (by omega); have := HP.out; omega)
        clear hp HP
        go_enter Try.func4, Try.ntmps4
        go_wp2_with (first
          | (go_at_call 11; refine (fieldsAwake_any _).mono ?_; rintro e w1 ⟨rfl, hd1⟩)
          | (go_at_call_of 14 (Value.int IntKind.i64 a); refine (HA.out _).mono ?_; rintro e w3 ⟨rfl, rfl⟩)
          | (go_at_call_of 14 (Value.int IntKind.i64 b); refine (HB.out _).mono ?_; rintro e w3 ⟨rfl, rfl⟩))
        all_goals (go_ret; first | exact ⟨rfl, hd1⟩ | exact ⟨ret_bool (by simpa using hm.out), hd1⟩)
      · have hlt : decide (a < 65536) = true := decide_eq_true (by have := hp.1; have := HP.out; omega)
        have hge : decide (256 ≤ a) = true := decide_eq_true (by have := hp.2 (by omega); have := HP.out; omega)
        clear hp HP
        go_enter Try.func4, Try.ntmps4
        go_wp2_with (first
          | (go_at_call 11; refine (fieldsAwake_any _).mono ?_; rintro e w1 ⟨rfl, hd1⟩)
          | (go_at_call_of 14 (Value.int IntKind.i64 a); refine (HA.out _).mono ?_; rintro e w3 ⟨rfl, rfl⟩)
          | (go_at_call_of 14 (Value.int IntKind.i64 b); refine (HB.out _).mono ?_; rintro e w3 ⟨rfl, rfl⟩))
        all_goals (go_ret; first | exact ⟨rfl, hd1⟩ | exact ⟨ret_bool (by simpa using hm.out), hd1⟩)
      · have hlt : decide (a < 16777216) = true := decide_eq_true (by have := hp.1; have := HP.out; omega)
        have hge : decide (65536 ≤ a) = true := decide_eq_true (by have := hp.2 (by omega); have := HP.out; omega)
        clear hp HP
        go_enter Try.func4, Try.ntmps4
        go_wp2_with (first
          | (go_at_call 11; refine (fieldsAwake_any _).mono ?_; rintro e w1 ⟨rfl, hd1⟩)
          | (go_at_call_of 14 (Value.int IntKind.i64 a); refine (HA.out _).mono ?_; rintro e w3 ⟨rfl, rfl⟩)
          | (go_at_call_of 14 (Value.int IntKind.i64 b); refine (HB.out _).mono ?_; rintro e w3 ⟨rfl, rfl⟩))
        all_goals (go_ret; first | exact ⟨rfl, hd1⟩ | exact ⟨ret_bool (by simpa using hm.out), hd1⟩)
      · have hlt : decide (a < 4294967296) = true := decide_eq_true (by have := hp.1; have := HP.out; omega)
        have hge : decide (16777216 ≤ a) = true := decide_eq_true (by have := hp.2 (by omega); have := HP.out; omega)
        clear hp HP
        go_enter Try.func4, Try.ntmps4
        go_wp2_with (first
          | (go_at_call 11; refine (fieldsAwake_any _).mono ?_; rintro e w1 ⟨rfl, hd1⟩)
          | (go_at_call_of 14 (Value.int IntKind.i64 a); refine (HA.out _).mono ?_; rintro e w3 ⟨rfl, rfl⟩)
          | (go_at_call_of 14 (Value.int IntKind.i64 b); refine (HB.out _).mono ?_; rintro e w3 ⟨rfl, rfl⟩))
        all_goals (go_ret; first | exact ⟨rfl, hd1⟩ | exact ⟨ret_bool (by simpa using hm.out), hd1⟩)
      · have hlt : decide (a < 1099511627776) = true := decide_eq_true (by have := hp.1; have := HP.out; omega)
        have hge : decide (4294967296 ≤ a) = true := decide_eq_true (by have := hp.2 (by omega); have := HP.out; omega)
        clear hp HP
        go_enter Try.func4, Try.ntmps4
        go_wp2_with (first
          | (go_at_call 11; refine (fieldsAwake_any _).mono ?_; rintro e w1 ⟨rfl, hd1⟩)
          | (go_at_call_of 14 (Value.int IntKind.i64 a); refine (HA.out _).mono ?_; rintro e w3 ⟨rfl, rfl⟩)
          | (go_at_call_of 14 (Value.int IntKind.i64 b); refine (HB.out _).mono ?_; rintro e w3 ⟨rfl, rfl⟩))
        all_goals (go_ret; first | exact ⟨rfl, hd1⟩ | exact ⟨ret_bool (by simpa using hm.out), hd1⟩)
      · have hlt : decide (a < 281474976710656) = true := decide_eq_true (by have := hp.1; have := HP.out; omega)
        have hge : decide (1099511627776 ≤ a) = true := decide_eq_true (by have := hp.2 (by omega); have := HP.out; omega)
        clear hp HP
        go_enter Try.func4, Try.ntmps4
        go_wp2_with (first
          | (go_at_call 11; refine (fieldsAwake_any _).mono ?_; rintro e w1 ⟨rfl, hd1⟩)
          | (go_at_call_of 14 (Value.int IntKind.i64 a); refine (HA.out _).mono ?_; rintro e w3 ⟨rfl, rfl⟩)
          | (go_at_call_of 14 (Value.int IntKind.i64 b); refine (HB.out _).mono ?_; rintro e w3 ⟨rfl, rfl⟩))
        all_goals (go_ret; first | exact ⟨rfl, hd1⟩ | exact ⟨ret_bool (by simpa using hm.out), hd1⟩)
      · have hlt : decide (a < 72057594037927936) = true := decide_eq_true (by have := hp.1; have := HP.out; omega)
        have hge : decide (281474976710656 ≤ a) = true := decide_eq_true (by have := hp.2 (by omega); have := HP.out; omega)
        clear hp HP
        go_enter Try.func4, Try.ntmps4
        go_wp2_with (first
          | (go_at_call 11; refine (fieldsAwake_any _).mono ?_; rintro e w1 ⟨rfl, hd1⟩)
          | (go_at_call_of 14 (Value.int IntKind.i64 a); refine (HA.out _).mono ?_; rintro e w3 ⟨rfl, rfl⟩)
          | (go_at_call_of 14 (Value.int IntKind.i64 b); refine (HB.out _).mono ?_; rintro e w3 ⟨rfl, rfl⟩))
        all_goals (go_ret; first | exact ⟨rfl, hd1⟩ | exact ⟨ret_bool (by simpa using hm.out), hd1⟩)
end Go.Proofs.Ytipngfdibcapjaa
