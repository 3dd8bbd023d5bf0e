/-
  The contracts of layer 1's functions, second part: the document's own sums; sums, copies, comparisons.
-/
import Derived.Test.YtbonockefjenaaaCrcWalks
namespace Go.Proofs.Ytbonockefjenaaa
open Go.RowKit

set_option maxHeartbeats 400000 in
theorem step_any (x : BitVec 32) (n : Nat) (hn : n ≤ 1000) (w : World) :
    Calls Try.prog 30 #[.int .u32 (U x), .int .i64 n] w fun e w' => e = .returned (.int .u32 (U (steps n x))) ∧ w = w' := by
  go_enter Try.func30, Try.ntmps30
  go_wp2
  go_loop [0, 5] (fun y i => ∃ m : Nat, m ≤ n ∧ i = .int .i64 m ∧ y = .int .u32 (U (steps m x))) (fun _ i => n - (intOf i).toNat)
  case atStart => exact ⟨0, by omega, rfl, rfl⟩
  case round =>
    obtain ⟨m, hm, rfl, rfl⟩ := hrel
    by_cases hlt : m < n
    · have H0 := U0 (steps m x)
      by_cases hodd : U (steps m x) % (2 : Int) = 1
      · have HF := Lib.hid (step_ref_odd (steps m x) hodd)
        generalize U (steps m x) = X at HF H0 hodd
        have hb : (X % (2 : Int) == 1) = true := by simpa using hodd
        clear hodd
        go_wp2
        go_round
        case rel => exact ⟨m + 1, by omega, by go_num, by rw [HF.out]; rfl⟩
        case measure => simp [intOf]; omega
      · have HF := Lib.hid (step_ref_even (steps m x) (by omega))
        generalize U (steps m x) = X at HF H0 hodd
        have hb : (X % (2 : Int) == 1) = false := by simpa using hodd
        clear hodd
        go_wp2
        go_round
        case rel => exact ⟨m + 1, by omega, by go_num, by rw [HF.out]; rfl⟩
        case measure => simp [intOf]; omega
    · obtain rfl : m = n := by omega
      go_wp2
      go_ret
      exact ⟨rfl, rfl⟩

set_option maxHeartbeats 400000 in
theorem refMore_any (s : BitVec 32) (a : Option Addr) (cap : Nat) (bs : List UInt8) (w : World) (hb : CellsB w a bs) (hl : bs.length ≤ 1000000) :
    Calls Try.prog 28 #[.int .u32 (U s), .slice a bs.length cap] w fun e w' => e = .returned (.int .u32 (U (more s bs))) ∧ w = w' := by
  have hnot := not_form' s
  go_enter Try.func28, Try.ntmps28
  go_wp2
  go_loop [5, 6] (fun y i => ∃ k : Nat, k ≤ bs.length ∧ i = .int .i64 k ∧ y = .int .u32 (U (reg (~~~ s) (bs.take k)))) (fun _ i => bs.length - (intOf i).toNat)
  case atStart => exact ⟨0, by omega, rfl, rfl⟩
  case round =>
    clear hnot
    obtain ⟨k, hk, rfl, rfl⟩ := hrel
    by_cases hlt : k < bs.length
    · obtain ⟨b, off, rfl, hbl, hcell⟩ := hb.at hlt
      have HX := Lib.hid (reg_take_succ8 (~~~ s) bs k hlt)
      have hbyte := byte_form (reg (~~~ s) (bs.take k)) (bs.getD k 0)
      have hu := (bs.getD k 0).toNat_lt
      generalize reg (~~~ s) (bs.take k) = r at HX hbyte
      generalize (bs.getD k 0).toNat = B at hcell HX hbyte hu
      clear hb
      go_wp2_with (go_at_call 30; refine (step_any _ 8 (by omega) _).mono ?_; rintro e w' ⟨rfl, rfl⟩)
      go_round
      case rel => exact ⟨k + 1, by omega, by go_num, by rw [HX.out]⟩
      case measure => simp [intOf]; omega
    · obtain rfl : k = bs.length := by omega
      go_wp2
      go_ret
      exact ⟨ret_int (not_form' (reg (~~~ s) bs)), rfl⟩

theorem sum_any (a : Option Addr) (cap : Nat) (bs : List UInt8) (w : World) (hb : CellsB w a bs) (hl : bs.length ≤ 1000000) :
    Calls Try.prog 24 #[.slice a bs.length cap] w fun e w' => e = .returned (.int .u32 (U (sum bs))) ∧ Below w.heap.size w w' := by
  have hm : ∀ w, CellsB w a bs → Calls Try.prog 27 #[.int .u32 0, .slice a bs.length cap] w fun e w' => e = .returned (.int .u32 (U (sum bs))) ∧ Below w.heap.size w w' := fun w hb => more_any 0#32 a cap bs w hb hl
  have HM := Lib.hid hm; clear hm
  go_enter Try.func24, Try.ntmps24
  go_wp2_with (go_at_call 27; refine (HM.out _ hb).mono ?_; rintro e w' ⟨rfl, hbw⟩)
  go_ret
  exact ⟨rfl, hbw⟩
theorem refSum_any (a : Option Addr) (cap : Nat) (bs : List UInt8) (w : World) (hb : CellsB w a bs) (hl : bs.length ≤ 1000000) :
    Calls Try.prog 25 #[.slice a bs.length cap] w fun e w' => e = .returned (.int .u32 (U (sum bs))) ∧ w = w' := by
  have hm : Calls Try.prog 28 #[.int .u32 0, .slice a bs.length cap] w fun e w' => e = .returned (.int .u32 (U (sum bs))) ∧ w = w' := refMore_any 0#32 a cap bs w hb hl
  have HM := Lib.hid hm; clear hm
  go_enter Try.func25, Try.ntmps25
  go_wp2_with (go_at_call 28; refine HM.out.mono ?_; rintro e w' ⟨rfl, rfl⟩)
  go_ret
  exact ⟨rfl, rfl⟩
/-- What append leaves on a fresh row, read as a returned row. -/
theorem retRow_mk {w w' : World} {e : TypeId} {size n : Nat} {xs : List Value} {a : Option Addr} {cap : Nat} (h : w'.ownsRow w.heap.size e size (.slice a n cap) n xs) (hb : Below w.heap.size w w') : RetRow e size n xs w (.returned (.slice a n cap)) w' := ⟨a, cap, rfl, h, hb⟩
set_option maxHeartbeats 400000 in
theorem clone_any (a : Option Addr) (cap : Nat) (bs : List UInt8) (w : World) (hb : CellsB w a bs) (hz : a = none → bs.length = 0) (hl : bs.length ≤ 1000000) :
    Calls Try.prog 22 #[.slice a bs.length cap] w (RetRow 5 1 bs.length (bs.map byteV) w) := by
  rcases a with _ | ad
  · obtain rfl := List.eq_nil_of_length_eq_zero (hz rfl)
    have hnil : ∀ w, (binOp .eql 22 (.slice none 0 cap) (.slice none 0 0)).run Try.prog w = .ok (.bool true) w := fun w => Lib.run_eql_slice_nil (P := Try.prog) w 22 5 none 0 cap 0 0 Try.underlying22
    clear hz hb hl
    go_enter Try.func22, Try.ntmps22
    go_wp2
    go_ret
    exact ⟨none, 0, rfl, World.ownsRow_nil _ _ _ _, Below.refl _ _⟩
  · clear hz
    have hnil : ∀ w, (binOp .eql 22 (.slice (some ad) bs.length cap) (.slice none 0 0)).run Try.prog w = .ok (.bool false) w := fun w => Lib.run_eql_slice_nil (P := Try.prog) w 22 5 (some ad) bs.length cap 0 0 Try.underlying22
    go_enter Try.func22, Try.ntmps22
    go_wp2_with (at_builtin; refine wpList_append_row rfl (.tmp 5) (.tmp 6) rfl elemB w.heap.size _ 0 [] (by rfl) (World.ownsRow_lit w #[] 0 (Nat.le_refl _) (by unfold maxLen; omega) (by rfl)) _ _ _ (bs.map byteV) (by rfl) (by simp) (RowAt.alloc hb _) (byteV_one _) (by unfold maxLen; omega) (by omega) (by simp) (by simp) ?_; intro a' c' w1 hown hg hat)
    simp only [Nat.zero_add, List.nil_append] at hown ⊢
    have hbw : Below w.heap.size w w1 := Below.appended ((Below.refl _ _).alloc (Nat.le_refl _) _) (World.ownsRow_lit (e := 5) (size := 1) w #[] 0 (Nat.le_refl _) (by unfold maxLen; omega) (by rfl)) hg (by simp) (Nat.le_refl _)
    go_wp2
    go_ret
    exact ⟨a', c', rfl, hown, hbw⟩
theorem eq_of_take_all {bs cs : List UInt8} (h : bs.length = cs.length) (ht : bs.take bs.length = cs.take bs.length) : bs = cs := by
  rw [List.take_length] at ht
  rw [h, List.take_length] at ht
  exact ht
theorem ne_at {bs cs : List UInt8} {k : Nat} (h : ¬ (bs.getD k 0).toNat = (cs.getD k 0).toNat) : ¬ bs = cs := fun e => h (by rw [e])
theorem take_eq_succ {bs cs : List UInt8} {k : Nat} (h1 : k < bs.length) (h2 : k < cs.length) (ht : bs.take k = cs.take k) (h : (bs.getD k 0).toNat = (cs.getD k 0).toNat) : bs.take (k + 1) = cs.take (k + 1) := by
  rw [take_succ_getD bs k h1, take_succ_getD cs k h2, ht, UInt8.toNat_inj.1 h]
set_option maxHeartbeats 400000 in
theorem equal_any (a : Option Addr) (cap : Nat) (bs : List UInt8) (a2 : Option Addr) (cap2 : Nat) (cs : List UInt8) (w : World) (hb : CellsB w a bs) (hc : CellsB w a2 cs) (hl : bs.length ≤ 1000000) :
    Calls Try.prog 26 #[.slice a bs.length cap, .slice a2 cs.length cap2] w fun e w' => e = .returned (.bool (decide (bs = cs))) ∧ Below w.heap.size w w' := by
  by_cases hlen : bs.length = cs.length
  · have ht : ((bs.length : Int) != (cs.length : Int)) = false := by simp [hlen]
    have HL := Lib.hid hlen; clear hlen
    go_enter Try.func26, Try.ntmps26
    go_wp2
    go_loopw [13] (fun i wr => ∃ k : Nat, k ≤ bs.length ∧ i = .int .i64 k ∧ bs.take k = cs.take k ∧ Below w.heap.size w wr) (fun i _ => bs.length - (intOf i).toNat)
    case atStart => exact ⟨0, by omega, rfl, by simp, Below.refl _ _⟩
    case round =>
      obtain ⟨k, hk, rfl, htk, hbw⟩ := hrel
      have HT := Lib.hid htk; clear htk
      by_cases hlt : k < bs.length
      · have hlt2 : k < cs.length := by have := HL.out; omega
        obtain ⟨b, off, rfl, hbl, hcell⟩ := CellsB.at hb hlt
        obtain ⟨b2, off2, rfl, hbl2, hcell2⟩ := CellsB.at hc hlt2
        rw [← hbw.cell (p := ⟨b, off + k, none⟩) hbl] at hcell
        rw [← hbw.cell (p := ⟨b2, off2 + k, none⟩) hbl2] at hcell2
        have HN := Lib.hid (@ne_at bs cs k)
        have HE := Lib.hid (take_eq_succ hlt hlt2 HT.out)
        generalize (bs.getD k 0).toNat = X at hcell HN HE
        generalize (cs.getD k 0).toNat = Y at hcell2 HN HE
        have hk0 : (0 : Int) ≤ (k : Int) := by omega
        have hk1 : (k : Int) < (bs.length : Int) := by omega
        have hk2 : (k : Int) < (cs.length : Int) := by omega
        by_cases hxy : X = Y
        · have hq : ((X : Int) != (Y : Int)) = false := by simp [hxy]
          have HXY := Lib.hid hxy
          clear hxy hb hc ht
          go_wp2
          go_quiet (fail)
          go_wp2
          go_roundw
          case rel => exact ⟨k + 1, by omega, by go_num, HE.out HXY.out, below_drewN hbw _⟩
          case measure => simp [intOf]; omega
        · have hq : ((X : Int) != (Y : Int)) = true := by simp; omega
          have HXY := Lib.hid hxy
          clear hxy hb hc ht
          go_wp2
          go_quiet (fail)
          go_wp2
          go_ret
          exact ⟨ret_bool (by simp [HN.out HXY.out]), below_drewN hbw _⟩
      · obtain rfl : k = bs.length := by omega
        go_wp2
        go_ret
        exact ⟨ret_bool (by simp [eq_of_take_all HL.out HT.out]), hbw⟩
  · have ht : ((bs.length : Int) != (cs.length : Int)) = true := by simp; omega
    have HL := Lib.hid hlen; clear hlen
    go_enter Try.func26, Try.ntmps26
    go_wp2
    go_ret
    exact ⟨ret_bool (by have : ¬ bs = cs := fun e => HL.out (by rw [e]); simp [this]), Below.refl _ _⟩
end Go.Proofs.Ytbonockefjenaaa
