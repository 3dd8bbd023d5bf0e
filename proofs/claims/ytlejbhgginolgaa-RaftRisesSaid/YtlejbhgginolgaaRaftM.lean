/-
  Is an entry of a message of a greater term?
-/
import Derived.Test.YtlejbhgginolgaaRaftI
namespace Go.Proofs.Ytlejbhgginolgaa
open Go.RowKit
set_option linter.unusedVariables false
abbrev enA (e : En) : Value := .agg #[.int .i64 e.1, .int .i64 e.2.1, .int .i64 e.2.2.1, .int .i64 e.2.2.2.1, .int .i64 e.2.2.2.2.1, .int .i64 e.2.2.2.2.2.1, .int .i64 e.2.2.2.2.2.2]
theorem oddE_any (e : En) (X : Nat) (T : Int) (w : World) (hX : w.cell? ⟨X, 3, none⟩ = some (.int .i64 T)) (hlt : X < w.heap.size) : Calls Try.prog 48 #[enA e, .pointer (some ⟨X, 0, none⟩)] w fun en w' => en = .returned (.bool (decide (T < e.1))) ∧ Below w.heap.size w w' := by
  obtain ⟨e0, e1, e2, e3, e4, e5, e6⟩ := e
  have hal := below1 w (.cells #[.int .i64 e0, .int .i64 e1, .int .i64 e2, .int .i64 e3, .int .i64 e4, .int .i64 e5, .int .i64 e6] 47)
  have hc := ((bcell hal).1 X 3 hlt).trans hX
  show Calls _ _ #[.agg #[.int .i64 e0, .int .i64 e1, .int .i64 e2, .int .i64 e3, .int .i64 e4, .int .i64 e5, .int .i64 e6], .pointer (some ⟨X, 0, none⟩)] _ _
  clear hX
  go_enter Try.func48, Try.ntmps48
  go_wp2
  go_ret
  exact ⟨rfl, hal⟩
theorem any_stop {p : En → Bool} {es : List En} {k : Nat} (hk : k < es.length) (h : p (es[k]'hk) = true) : es.any p = true := List.any_eq_true.2 ⟨_, List.getElem_mem hk, h⟩
theorem any_go {p : En → Bool} {es : List En} {k : Nat} (hk : k < es.length) (h0 : (es.take k).any p = false) (h : p (es[k]'hk) = false) : (es.take (k + 1)).any p = false := by rw [List.take_succ_eq_append_getElem hk, List.any_append, h0]; simp [h]
set_option maxRecDepth 100000 in
set_option maxHeartbeats 3200000 in
theorem indexE_any (am : Option Addr) (cm : Nat) (es : List En) (X : Nat) (T : Int) (w : World) (hl : LogIn w am cm es) (hs : es.length ≤ 1000000) (hX : w.cell? ⟨X, 3, none⟩ = some (.int .i64 T)) (hlt : X < w.heap.size) :
    Calls Try.prog 54 #[.slice am es.length cm, .func (.func 48) #[] #[.pointer (some ⟨X, 0, none⟩)]] w fun en w' => (∃ i : Int, en = .returned (.int .i64 i) ∧ -1 ≤ i ∧ decide (0 ≤ i) = es.any fun e => decide (T < e.1)) ∧ Below w.heap.size w w' := by
  have HL := Lib.hid hl
  have HX := Lib.hid hX
  clear hX
  go_enter Try.func54, Try.ntmps54
  go_wp2
  go_loopw [8] (fun i wr => ∃ k : Nat, k ≤ es.length ∧ i = .int .i64 (k : Int) ∧ Hid ((es.take k).any (fun e => decide (T < e.1)) = false) ∧ Below w.heap.size w wr) (fun i _ => es.length - (intOf i).toNat)
  case atStart => exact ⟨0, by omega, rfl, rfl, below0 _⟩
  case round =>
    obtain ⟨k, hk, rfl, HP, hb⟩ := hrel
    by_cases hk2 : k < es.length
    · obtain ⟨g, off, rfl, hg, d0, d1, d2, d3, d4, d5, d6⟩ := entry_cells (HL.out.row.below hb) hk2
      have hO : Hid (Calls Try.prog 48 #[enA (es[k]'hk2), .pointer (some ⟨X, 0, none⟩)] wr fun en w' => en = .returned (.bool (decide (T < (es[k]'hk2).1))) ∧ Below wr.heap.size wr w') := oddE_any _ X T wr (((bcell hb).1 X 3 hlt).trans HX.out) (Nat.lt_of_lt_of_le hlt hb.size)
      have hk0 : (0 : Int) ≤ (k : Int) := by omega
      have hk1 : (k : Int) < (es.length : Int) := by omega
      by_cases hp : T < (es[k]'hk2).1
      · have HR := Lib.hid (any_stop (p := fun e => decide (T < e.1)) hk2 (decide_eq_true hp))
        rw [decide_eq_true hp] at hO
        clear hp
        generalize (es[k]'hk2) = y at hO d0 d1 d2 d3 d4 d5 d6
        go_wp2_with (go_at_call 48; refine hO.out.mono ?_; rintro en w1 ⟨rfl, hb1⟩)
        go_ret
        exact ⟨⟨_, rfl, by omega, by rw [HR.out]; simp⟩, hb.trans (hb1.mono hb.size)⟩
      · have HR := Lib.hid (any_go (p := fun e => decide (T < e.1)) hk2 HP.out (decide_eq_false hp))
        rw [decide_eq_false hp] at hO
        clear hp
        generalize (es[k]'hk2) = y at hO d0 d1 d2 d3 d4 d5 d6
        go_wp2_with (go_at_call 48; refine hO.out.mono ?_; rintro en w1 ⟨rfl, hb1⟩)
        go_roundw
        case rel => exact ⟨k + 1, by omega, by go_num, HR, hb.trans (hb1.mono hb.size)⟩
        case measure => simp [intOf]; omega
    · have hk' : k = es.length := by omega
      subst hk'
      have HP2 : Hid (es.any (fun e => decide (T < e.1)) = false) := by have := HP.out; rwa [List.take_length] at this
      go_wp2
      go_ret
      exact ⟨⟨-1, rfl, by omega, by rw [HP2.out]; rfl⟩, hb⟩
theorem containsE_any (am : Option Addr) (cm : Nat) (es : List En) (X : Nat) (T : Int) (w : World) (hl : LogIn w am cm es) (hs : es.length ≤ 1000000) (hX : w.cell? ⟨X, 3, none⟩ = some (.int .i64 T)) (hlt : X < w.heap.size) :
    Calls Try.prog 50 #[.slice am es.length cm, .func (.func 48) #[] #[.pointer (some ⟨X, 0, none⟩)]] w fun en w' => en = .returned (.bool (es.any fun e => decide (T < e.1))) ∧ Below w.heap.size w w' := by
  have HS := Lib.hid (indexE_any am cm es X T w hl hs hX hlt)
  clear hX hl
  go_enter Try.func50, Try.ntmps50
  go_wp2_with (go_at_call 54; refine HS.out.mono ?_; rintro e w1 ⟨⟨i, rfl, hi1, hi2⟩, hb1⟩; replace hi2 := Lib.hid hi2)
  go_ret
  exact ⟨ret_bool hi2.out, hb1⟩
end Go.Proofs.Ytlejbhgginolgaa
