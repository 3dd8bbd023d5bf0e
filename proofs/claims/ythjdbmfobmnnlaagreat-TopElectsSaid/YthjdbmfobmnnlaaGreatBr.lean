/-
  Br: several texts in one.
-/
import Derived.Test.YthjdbmfobmnnlaaGreatBl
import Derived.Test.YthjdbmfobmnnlaaGreatVaultM
/-
  The plain laws of a disk: what was synced stays, what was saved is saved again without a byte more, what a crash may leave.
-/
namespace Go.Proofs.YthjdbmfobmnnlaaGreat
open Go.RowKit
set_option linter.unusedVariables false
theorem crash_synced {x : Vt} (hx : VtOk x) (hs : x.2.1 = x.1.length) (k : Int) : crashV x k = x := by
  have hn : crashN x k = x.1.length := by
    unfold crashN
    rw [hs, show (x.1.length : Int) - (x.1.length : Int) + 1 = 1 by omega, Int.emod_one]
    simp
  unfold crashV
  rw [hn, List.take_length, hx.whole]
  simp only [List.take_length]
  rw [← hs]
theorem commonN_self : ∀ (l : List En), commonN l l = l.length
  | [] => rfl
  | e :: l => by unfold commonN; rw [if_pos rfl, commonN_self l, List.length_cons]
theorem saveB_self (t v : Int) (l : List En) : saveB (t, v, l) t v l = [] := by
  unfold saveB
  simp only [commonN_self, and_self, if_true, Nat.lt_irrefl, if_false, List.drop_length, List.nil_append]
  rfl
theorem save_again {x : Vt} {t v b bt : Int} {l : List En} (h : saveE x t v b bt l = 0) : saveE (saveV x t v b bt l) t v b bt l = 0 ∧ saveV (saveV x t v b bt l) t v b bt l = saveV x t v b bt l := by
  obtain ⟨h1, h2, h3, h4, h5, h6, h7⟩ := saveE_zero h
  have hv := saveV_eq h
  have h0 : saveE (saveV x t v b bt l) t v b bt l = 0 := by
    rw [saveE_ok ⟨h1, h2, h3, h6⟩, hv]
    simp only [saveB_self, List.append_nil]
    rw [if_neg (by omega)]
  refine ⟨h0, ?_⟩
  rw [saveV_eq h0, hv]
  simp only [saveB_self, List.append_nil]
theorem saveV_le {x : Vt} {t v b bt : Int} {l : List En} (h : x.1.length ≤ 65536) : (saveV x t v b bt l).1.length ≤ 65536 := by
  by_cases he : saveE x t v b bt l = 0
  · rw [saveV_eq he]; exact (saveE_zero he).2.2.2.2.2.2
  · rw [saveV_no he]; exact h
theorem crashV_le {x : Vt} {k : Int} (h : x.1.length ≤ 65536) : (crashV x k).1.length ≤ 65536 := by
  unfold crashV; simp only [List.length_take]; omega
/-- Behind a crash of what was saved and not synced. -/
theorem crash_between {x : Vt} (hx : VtOk x) (hs : x.2.1 = x.1.length) {t v b bt : Int} {l : List En} (h : saveE x t v b bt l = 0) (k : Int) : Between x.2.2 t v l (crashV (saveV x t v b bt l) k).2.2 := by
  have ok := save_ok hx h
  have hk := saveV_ok hx t v b bt l
  have hn := crashN_le hk.sync k
  rw [saveV_eq h] at hn ⊢
  simp only at hn
  unfold crashV
  simp only
  generalize crashN (x.1 ++ saveB x.2.2 t v l, x.2.1, (t, v, l)) k = m at hn ⊢
  rw [List.take_append, List.take_of_length_le (show x.1.length ≤ m by omega)]
  unfold readV
  rw [readS_append _ x.1 _ st0 (Nat.le_refl _) (by have := hx.whole; unfold readV at this; rw [this])]
  have hw := hx.whole
  unfold readV at hw
  simp only [hw]
  exact save_torn ok (List.take_append_drop (m - x.1.length) _).symm
theorem vt0_save {t v b bt : Int} {l : List En} (h : saveE vt0 t v b bt l ≠ 0) : saveV vt0 t v b bt l = vt0 := saveV_no h
/-- What is held has at most 64 entries. -/
theorem held_le {x : Vt} (hx : VtOk x) : x.2.2.2.2.length ≤ 64 := by
  have := (mayL_true hx.held.2).2.2.2.2.2.1
  omega
/-! ### What is on a disk that was saved once, read in part -/
theorem between_part {t v : Int} {l : List En} {s : St} (h : Between st0 t v l s) : ∃ k, s.2.2 = l.take k := by
  rcases h.2 with ⟨k, _, hk⟩ | ⟨k, _, hk⟩
  · exact ⟨0, by rw [hk]; simp [st0]⟩
  · exact ⟨k, hk⟩
theorem save_part {t v b bt : Int} {l : List En} (h : saveE vt0 t v b bt l = 0) (cut : Nat) : ∃ k, (readV ((saveV vt0 t v b bt l).1.take cut)).1.2.2 = l.take k := by
  have ok := save_ok vt0_ok h
  rw [saveV_eq h]
  show ∃ k, (readV (([] ++ saveB st0 t v l).take cut)).1.2.2 = l.take k
  rw [List.nil_append]
  exact between_part (save_torn (h := st0) ok (X := (saveB st0 t v l).take cut) (Y := (saveB st0 t v l).drop cut) (List.take_append_drop _ _).symm)
end Go.Proofs.YthjdbmfobmnnlaaGreat

/-
  A save, whole; Read.
-/
namespace Go.Proofs.YthjdbmfobmnnlaaGreat
open Go.RowKit
set_option linter.unusedVariables false
theorem save_any {P : Nat → Prop} (V base : Nat) (x : Vt) (t v bb bt : Int) (a : Option Addr) (cap : Nat) (l : List En) (w : World) (hP : ∀ y, w.heap.size ≤ y → P y) (h : VtAt w V base P x) (hV : V < base) (hb : base ≤ w.heap.size) (hl : LogIn w a cap l) (hwf : ∀ e ∈ l, EnWf e) (hx : VtOk x) (hl65 : x.1.length ≤ 65536) :
    Calls Tryz.prog 76 #[.pointer (some ⟨V, 0, none⟩), ballotV t v, logV bb bt a l.length cap] w fun e w' => e = .returned (.int .i64 (saveE x t v bb bt l)) ∧ VtAt w' V base P (saveV x t v bb bt l) ∧ Only V w w' := by
  by_cases hg : mayV t v = true ∧ mayL bb bt l = true ∧ bb = 0 ∧ ∀ e ∈ l, EnFair e
  · obtain ⟨h1, h2, rfl, h4⟩ := hg
    exact save_good V base x t v bt a cap l w hP h hV hb hl hwf hx hl65 h1 h2 h4
  · have he := saveE_bad (x := x) hg
    rw [saveV_no (x := x) (by rw [he]; decide), he]
    refine (save_bad V base x t v bb bt a cap l w h hV hb hl hwf hg).mono ?_
    rintro e w' ⟨rfl, hb1⟩
    exact ⟨rfl, h.below hb1, Only.of_below hb1⟩
end Go.Proofs.YthjdbmfobmnnlaaGreat
