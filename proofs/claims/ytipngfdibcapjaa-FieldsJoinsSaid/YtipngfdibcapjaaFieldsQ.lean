/-
  Layer 2: the reader: what it takes.
-/
import Derived.Test.YtipngfdibcapjaaFieldsP
import Derived.Test.YtipngfdibcapjaaOnly
import Derived.Test.YtipngfdibcapjaaSlices
import Derived.Deep.QuietTactic
import Derived.BigQuiet
namespace Go.Proofs.Ytipngfdibcapjaa
open Go.RowKit
set_option linter.unusedVariables false
/-- 'b[l:h:h]' of bytes. -/
theorem slice_three (a : Option Addr) (len cap l n : Nat) (hh : l + n ≤ cap) (w : World) :
    (Instr.slice 23 (.slice a len cap) (some (.int .i64 (l : Int))) (some (.int .i64 ((l : Int) + (n : Int)))) (some (.int .i64 ((l : Int) + (n : Int))))).run Try.prog w = .ok (.slice (cutA a (l + n) l) n n) w := by
  rw [run_slice_lhm (P := Try.prog) w 23 a len cap under_bytes .i64 .i64 .i64 (l : Int) ((l : Int) + (n : Int)) ((l : Int) + (n : Int)) (by omega) (by omega) (by omega) (by omega), elem_bytes, sizeOf_byte]
  have e : ((l : Int) + (n : Int)).toNat = l + n := by omega
  simp only [Result.andThen, sliced, Int.toNat_natCast, cutA, e, Nat.add_sub_cancel_left]
theorem CellsB.three {w : World} {a : Option Addr} {bs : List UInt8} (h : CellsB w a bs) (p n : Nat) : CellsB w (cutA a (p + n) p) ((bs.drop p).take n) := by
  have := (h.take (p + n)).cut (p + n) p (by rw [List.length_take]; omega)
  rwa [List.drop_take, Nat.add_sub_cancel_left] at this
/-- The reader's three cells. -/
abbrev rdC (a : Option Addr) (len cap : Nat) (p e : Int) : Obj := .cells #[.slice a len cap, .int .i64 p, .int .i64 e] 50
set_option maxHeartbeats 3200000 in
theorem take_bad (R : Nat) (a : Option Addr) (len cap : Nat) (p e n : Int) (he : e ≠ 0) (w : World) (g : w.heap[R]? = some (rdC a len cap p e)) :
    Calls Try.prog 29 #[.pointer (some ⟨R, 0, none⟩), .int .i64 n] w fun en w' => en = .returned (.slice none 0 0) ∧ ∃ k, w' = w.drewN k := by
  obtain ⟨hc0, hc1, hc2, hf0, hf1, hf2, hlt⟩ := box3 g
  have he1 : (e != 0) = true := by simpa using he
  have he2 : (e == 0) = false := by simpa using he
  go_enter Try.func29, Try.ntmps29
  go_wp2
  go_quiet (fail)
  go_wp2
  go_ret
  exact ⟨rfl, _, rfl⟩
set_option maxHeartbeats 3200000 in
theorem take_more (R : Nat) (a : Option Addr) (len cap p n : Nat) (hl : len < p + n) (hlm : len ≤ 1000000) (hpm : p ≤ 1000000) (w : World) (g : w.heap[R]? = some (rdC a len cap p 0)) :
    Calls Try.prog 29 #[.pointer (some ⟨R, 0, none⟩), .int .i64 n] w fun en w' => en = .returned (.slice none 0 0) ∧ w'.heap[R]? = some (rdC a len cap p 3) ∧ Only R w w' := by
  obtain ⟨hc0, hc1, hc2, hf0, hf1, hf2, hlt⟩ := box3 g
  have b1 : -9223372036854775808 ≤ (len : Int) - (p : Int) ∧ (len : Int) - (p : Int) ≤ 9223372036854775807 := by omega
  have hd : (len : Int) - (p : Int) < (n : Int) := by omega
  have hw1 := wrap_id b1.1 b1.2
  clear b1
  have g2 := fun k => blk_set (w := w.drewN k) (i := 2) (blk_many g k) (.int .i64 3)
  clear hl hlm hpm
  go_enter Try.func29, Try.ntmps29
  go_wp2
  go_quiet (fail)
  go_wp2
  go_ret
  exact ⟨rfl, g2 _, ((Only.refl _ _).many _).setCell 2 _⟩
set_option maxHeartbeats 3200000 in
theorem take_ok (R : Nat) (a : Option Addr) (len cap p n : Nat) (hl : p + n ≤ len) (hlm : len ≤ 1000000) (hcap : len ≤ cap) (w : World) (g : w.heap[R]? = some (rdC a len cap p 0)) :
    Calls Try.prog 29 #[.pointer (some ⟨R, 0, none⟩), .int .i64 n] w fun en w' => en = .returned (.slice (cutA a (p + n) p) n n) ∧ w'.heap[R]? = some (rdC a len cap ((p + n : Nat) : Int) 0) ∧ Only R w w' := by
  obtain ⟨hc0, hc1, hc2, hf0, hf1, hf2, hlt⟩ := box3 g
  have hd : decide ((len : Int) - (p : Int) < (n : Int)) = false := decide_eq_false (by omega)
  have hs : ∀ W, (Instr.slice 23 (.slice a len cap) (some (.int .i64 (p : Int))) (some (.int .i64 ((p : Int) + (n : Int)))) (some (.int .i64 ((p : Int) + (n : Int))))).run Try.prog W = .ok (.slice (cutA a (p + n) p) n n) W := fun W => slice_three a len cap p n (by omega) W
  have b1 : -9223372036854775808 ≤ (len : Int) - (p : Int) ∧ (len : Int) - (p : Int) ≤ 9223372036854775807 := by omega
  have b2 : -9223372036854775808 ≤ (p : Int) + (n : Int) ∧ (p : Int) + (n : Int) ≤ 9223372036854775807 := by omega
  have b3 : -9223372036854775808 ≤ (p : Int) ∧ (p : Int) ≤ 9223372036854775807 := by omega
  have hw1 := wrap_id b1.1 b1.2
  have hw2 := wrap_id b2.1 b2.2
  have hw5 := wrap_id b3.1 b3.2
  have hw4 := wrap64_id b2.1 b2.2
  clear b1 b2 b3
  have g2 := fun k j => blk_many (blk_set (w := w.drewN k) (i := 1) (blk_many g k) (.int .i64 ((p : Int) + (n : Int)))) j
  clear hl hlm hcap
  go_enter Try.func29, Try.ntmps29
  go_wp2
  go_quiet (fail)
  go_wp2
  generalize hW : (w.drewN nq).setCell { block := R, off := 1 } (Value.int IntKind.i64 ((p : Int) + (n : Int))) = W
  have gW : W.heap[R]? = some (rdC a len cap ((p + n : Nat) : Int) 0) := by rw [← hW]; simpa using g2 nq 0
  have oW : Only R w W := by rw [← hW]; exact ((Only.refl _ _).many _).setCell 1 _
  clear hW g2 g hc0 hc1 hc2 hf0 hf1 hf2
  obtain ⟨hc0, hc1, hc2, hf0, hf1, hf2, hlt'⟩ := box3 gW
  rw [Int.natCast_add] at hc1
  go_region_held3 (fun W => W.cell? ⟨R, 0, none⟩ = some (.slice a len cap) ∧ W.cell? ⟨R, 1, none⟩ = some (.int .i64 ((p : Int) + (n : Int))) ∧ (Instr.slice 23 (.slice a len cap) (some (.int .i64 (p : Int))) (some (.int .i64 ((p : Int) + (n : Int)))) (some (.int .i64 ((p : Int) + (n : Int))))).run Try.prog W = .ok (.slice (cutA a (p + n) p) n n) W) (exact ⟨hc0, hc1, hs _⟩) (fail)
  go_wp2
  go_ret
  exact ⟨rfl, gW, oW.many 1⟩
end Go.Proofs.Ytipngfdibcapjaa
