/-
  A vote comes.
-/
import Derived.Test.YtlejbhgginolgaaRaftI
namespace Go.Proofs.Ytlejbhgginolgaa
open Go.RowKit
set_option linter.unusedVariables false
theorem nodup_le {l : List Int} (h : l.Nodup) : ∀ n : Nat, (∀ v ∈ l, 1 ≤ v ∧ v ≤ (n : Int)) → l.length ≤ n := by
  intro n
  induction n generalizing l with
  | zero =>
    intro hv
    cases l with
    | nil => simp
    | cons x xs => have := hv x (by simp); omega
  | succ n ih =>
    intro hv
    have h1 := ih (h.erase ((n : Int) + 1)) fun v hm => by
      have hm2 := (h.mem_erase_iff).1 hm
      have := hv v hm2.2
      have := hm2.1
      omega
    have h2 := List.length_erase (a := (n : Int) + 1) (l := l)
    split at h2 <;> omega
theorem votes_le {m : Mb} (h : MbOk m) : m.votes.length ≤ 16 := nodup_le h.nodup 16 h.votes
section
variable {w : World} {b : Nat} {a : MA} {m : Mb}
set_option maxRecDepth 100000 in
set_option maxHeartbeats 6400000 in
theorem voted_any (h : MAt w b a m) (hok : MbOk m) (x : Ms) (hx1 : 1 ≤ x.frm) (hx2 : x.frm ≤ 16) (am : Option Addr) (cm : Nat) : Calls Try.prog 35 #[.pointer (some ⟨b, 0, none⟩), x.val am cm] w (RetR (m.voted x).1 (m.voted x).2 b a w) := by
  obtain ⟨xk, xf, xd, xt, xi, xl, xc, xy, xe⟩ := x
  simp only at hx1 hx2
  show Calls _ _ #[.pointer (some ⟨b, 0, none⟩), .agg #[.int .i64 xk, .int .i64 xf, .int .i64 xd, .int .i64 xt, .int .i64 xi, .int .i64 xl, .int .i64 xc, .bool xy, .slice am xe.length cm]] _ _
  have hal := below1 w (.cells #[.int .i64 xk, .int .i64 xf, .int .i64 xd, .int .i64 xt, .int .i64 xi, .int .i64 xl, .int .i64 xc, .bool xy, .slice am xe.length cm] 37)
  have g0 := blk_new w (.cells #[.int .i64 xk, .int .i64 xf, .int .i64 xd, .int .i64 xt, .int .i64 xi, .int .i64 xl, .int .i64 xc, .bool xy, .slice am xe.length cm] 37)
  have HA := Lib.hid (h.below hal)
  have hnx := h.new (Nat.le_refl w.heap.size)
  obtain ⟨c0, c1, c2, c3, c4, c5, c6, c7, c8, c9, hlt⟩ := box10 (h.below hal).blk
  obtain ⟨x0, x1, x2, x3, x4, x5, x6, x7, x8⟩ := box9 g0
  have flt := blk_lt g0
  have S0 : Step w b a (w.alloc (.cells #[.int .i64 xk, .int .i64 xf, .int .i64 xd, .int .i64 xt, .int .i64 xi, .int .i64 xl, .int .i64 xc, .bool xy, .slice am xe.length cm] 37)) a := .of_below hal
  by_cases hno : m.role ≠ 1 ∨ xt ≠ m.term ∨ xy = false
  · have HV : Hid (m.voted ⟨xk, xf, xd, xt, xi, xl, xc, xy, xe⟩ = (m, [])) := if_pos hno
    have hcase : (m.role != 1) = true ∨ ((m.role != 1) = false ∧ (xt != m.term) = true) ∨ ((m.role != 1) = false ∧ (xt != m.term) = false ∧ xy = false) := by
      by_cases h1 : m.role = 1
      · by_cases h2 : xt = m.term
        · right; right
          refine ⟨by simp [h1], by simp [h2], ?_⟩
          rcases hno with h3 | h3 | h3
          · exact (h3 h1).elim
          · exact (h3 h2).elim
          · exact h3
        · right; left; exact ⟨by simp [h1], by simpa using h2⟩
      · left; simpa using h1
    clear hno
    rcases hcase with h1 | ⟨h1, h2⟩ | ⟨h1, h2, h3⟩
    · go_enter Try.func35, Try.ntmps35
      go_wp2
      go_quiet (fail)
      go_wp2
      go_ret
      rw [HV.out]
      exact RetR.nil (HA.out.many _) (S0.many _)
    · go_enter Try.func35, Try.ntmps35
      go_wp2
      go_quiet (fail)
      go_wp2
      go_ret
      rw [HV.out]
      exact RetR.nil (HA.out.many _) (S0.many _)
    · subst h3
      go_enter Try.func35, Try.ntmps35
      go_wp2
      go_quiet (fail)
      go_wp2
      go_ret
      rw [HV.out]
      exact RetR.nil (HA.out.many _) (S0.many _)
  have HV : Hid (m.voted ⟨xk, xf, xd, xt, xi, xl, xc, xy, xe⟩ = if (m.counted ⟨xk, xf, xd, xt, xi, xl, xc, xy, xe⟩).won = true then ((m.counted ⟨xk, xf, xd, xt, xi, xl, xc, xy, xe⟩).lead, (m.counted ⟨xk, xf, xd, xt, xi, xl, xc, xy, xe⟩).lead.adds) else (m.counted ⟨xk, xf, xd, xt, xi, xl, xc, xy, xe⟩, [])) := if_neg hno
  have h1 : (m.role != 1) = false := by
    by_cases h : m.role = 1
    · simp [h]
    · exact (hno (.inl h)).elim
  have ht : 1 ≤ m.term := hok.live (by simp at h1; omega)
  have h2 : (xt != m.term) = false := by
    by_cases h : xt = m.term
    · simp [h]
    · exact (hno (.inr (.inl h))).elim
  have h3 : xy = true := by
    cases hy : xy with
    | true => rfl
    | false => exact (hno (.inr (.inr hy))).elim
  have HOKC := Lib.hid (hok.counted ⟨xk, xf, xd, xt, xi, xl, xc, xy, xe⟩ ⟨hx1, hx2⟩)
  have hn16 : (if xf ∈ m.votes then m.votes else m.votes ++ [xf]).length ≤ 16 := votes_le HOKC.out
  have HN := Lib.hid hn16
  clear hno hn16
  subst h3
  go_enter Try.func35, Try.ntmps35
  go_wp2
  go_quiet (fail)
  go_wp2
  have H1 := HA.out.many nq
  have g1 := blk_many g0 nq
  have S1 := S0.many nq
  clear c0 c1 c2 c3 c4 c5 c6 c7 c8 c9 hlt x0 x1 x2 x3 x4 x5 x6 x7 x8 flt HA S0 g0 hal
  generalize (w.alloc (.cells #[.int .i64 xk, .int .i64 xf, .int .i64 xd, .int .i64 xt, .int .i64 xi, .int .i64 xl, .int .i64 xc, .bool true, .slice am xe.length cm] 37)).drewN nq = W1 at *
  obtain ⟨c0, c1, c2, c3, c4, c5, c6, c7, c8, c9, hlt⟩ := box10 H1.blk
  obtain ⟨x0, x1, x2, x3, x4, x5, x6, x7, x8⟩ := box9 g1
  have flt := blk_lt g1
  go_still_tail 6, (by kernel_rfl)
  show wpList _ _ _ _ _ W1.drew
  refine wpList_vote rfl (.tmp 28) (.tmp 30) (by rfl) (by rfl) (by rfl) H1.drew.votes hx1 hx2 HN.out ?_
  intro w3 hv3 hc3
  have HM3 : MAt w3 b a (m.counted ⟨xk, xf, xd, xt, xi, xl, xc, true, xe⟩) := H1.drew.newVotes hc3 hv3
  have S3 := S1.drew.votes hc3
  clear hv3
  have HWON := Lib.hid (won_any HM3 HOKC.out)
  have htc : 1 ≤ (m.counted ⟨xk, xf, xd, xt, xi, xl, xc, true, xe⟩).term := ht
  generalize m.counted ⟨xk, xf, xd, xt, xi, xl, xc, true, xe⟩ = mc at *
  have HMH := Lib.hid HM3
  clear c0 c1 c2 c3 c4 c5 c6 c7 c8 c9 hlt x0 x1 x2 x3 x4 x5 x6 x7 x8 flt HM3
  cases hw : mc.won with
  | true =>
    rw [hw] at HWON
    rw [hw, if_pos rfl] at HV
    clear hw
    go_wp2_with (first
      | (go_at_call 25; refine HWON.out.mono ?_; rintro e w4 ⟨rfl, hb4⟩; have HL := Lib.hid (lead_any (HMH.out.below hb4) HOKC.out htc))
      | (go_at_call 26; refine HL.out.mono ?_; rintro e w5 ⟨a5, B5, A5, c5, sl5, rfl, H5, S5, hB5, hF5, hms5⟩))
    go_ret
    rw [HV.out]
    exact ⟨a5, B5, A5, c5, sl5, rfl, H5, (S3.below hb4).trans S5, Nat.le_trans (S3.below hb4).chg.size hB5, hF5, hms5⟩
  | false =>
    rw [hw] at HWON
    rw [hw, if_neg (by decide)] at HV
    clear hw
    go_wp2_with (go_at_call 25; refine HWON.out.mono ?_; rintro e w4 ⟨rfl, hb4⟩)
    go_ret
    rw [HV.out]
    exact RetR.nil (HMH.out.below hb4) (S3.below hb4)
end
end Go.Proofs.Ytlejbhgginolgaa
