/-
  A record behind bytes.
-/
import Derived.Test.YtnbljcbfnplbaaaVaultMath
import Derived.Test.YtnbljcbfnplbaaaBD
import Derived.Test.YtnbljcbfnplbaaaBF
import Derived.Test.YtnbljcbfnplbaaaBA
namespace Go.Proofs.Ytnbljcbfnplbaaa
open Go.RowKit
set_option linter.unusedVariables false
/-- Bytes of the call's own. -/
def RetOn (base : Nat) (ys : List UInt8) (w : World) (en : Ending) (w' : World) : Prop := ∃ D c, en = .returned (.slice D ys.length c) ∧ w'.ownsRow base 5 1 (.slice D ys.length c) ys.length (ys.map byteV) ∧ Below base w w'
/-- A record's bytes as they are put. -/
def recP (k : Int) (ns : List Int) : List UInt8 := putB (k, packB (ns, []))
theorem recP_le (k : Int) (ns : List Int) : (recP k ns).length ≤ 4104 := by
  unfold recP
  by_cases h : putE (k, packB (ns, [])) = 0
  · rw [putB_length h]; have := (putE_zero h).2.2; simp only at this ⊢; omega
  · rw [putB_none h]; simp
theorem recP_eq {k : Int} {ns : List Int} (h : RecOk k ns) : recP k ns = recB k ns := by
  unfold recP recB
  rw [packB_eq (rec_pack h.2.2.1 h.2.2.2)]
set_option maxRecDepth 100000 in
set_option maxHeartbeats 3200000 in
theorem record_any (base : Nat) (D : Option Addr) (cD : Nat) (bs : List UInt8) (k : Int) (a : Option Addr) (c : Nat) (ns : List Int) (w : World)
    (hown : w.ownsRow base 5 1 (.slice D bs.length cD) bs.length (bs.map byteV)) (hbs : base ≤ w.heap.size) (hi : IntsIn w a c ns) (hl : bs.length ≤ 1000000) :
    Calls Try.prog 29 #[.slice D bs.length cD, .int .i64 k, .slice a ns.length c] w (RetOn base (bs ++ recP k ns) w) := by
  have HP : Hid (Calls Try.prog 45 #[.agg #[.slice a ns.length c, .slice none 0 0]] w (RetRowE 5 1 (packB (ns, [])).length ((packB (ns, [])).map byteV) (packE (ns, [])) w)) := fpack_any a c ns none 0 [] w hi .nil (fun _ => rfl)
  have HQ : Hid (∀ W a2 c2, W.ownsRow w.heap.size 5 1 (.slice a2 (packB (ns, [])).length c2) (packB (ns, [])).length ((packB (ns, [])).map byteV) → Calls Try.prog 46 #[.agg #[.int .i64 k, .slice a2 (packB (ns, [])).length c2]] W (RetRowE 5 1 (recP k ns).length ((recP k ns).map byteV) (putE (k, packB (ns, []))) W)) := fun W a2 c2 h => put_any k a2 c2 (packB (ns, [])) W (RowAt.of_own h) (own_none h)
  have hrl := recP_le k ns
  clear hi
  generalize putE (k, packB (ns, [])) = pe at HQ
  generalize packB (ns, []) = P at HP HQ
  generalize packE (ns, []) = qe at HP
  generalize recP k ns = Z at HQ hrl ⊢
  have hzl : (bs ++ Z).length = bs.length + Z.length := List.length_append
  have HZL := Lib.hid hzl
  clear hzl
  go_enter Try.func29, Try.ntmps29
  go_wp2_with (first
    | (go_at_call 45; refine HP.out.mono ?_; rintro en w1 ⟨a1, c1, rfl, own1, hb1⟩)
    | (go_at_call 46; refine (HQ.out _ a1 c1 own1).mono ?_; rintro en w2 ⟨a2, c2, rfl, own2, hb2⟩; have hb := hb1.trans (hb2.mono hb1.size); have hownD := own_below hown hb; have hsz := hb.size)
    | (at_builtin; refine wpList_append_row rfl (.tmp 24) (.tmp 25) rfl elemB base (.slice D bs.length cD) bs.length (bs.map byteV) (by rfl) hownD a2 Z.length c2 (Z.map byteV) (by rfl) (by rw [List.length_map, Nat.mul_one]) (RowAt.of_own own2) (byteV_one _) (by unfold maxLen; omega) (by omega) (Nat.le_trans hbs hsz) (own_none own2) ?_; intro a3 c3 w3 hown3 hg3 hat3; have hb3 : Below base w w3 := Below.appended (hb.mono hbs) hownD hg3 (Nat.le_trans hbs hsz) (Nat.le_refl _)))
  go_ret
  refine ⟨a3, c3, ?_, ?_, hb3⟩
  · rw [HZL.out]; rfl
  · rw [HZL.out, List.map_append]; exact hown3
end Go.Proofs.Ytnbljcbfnplbaaa
