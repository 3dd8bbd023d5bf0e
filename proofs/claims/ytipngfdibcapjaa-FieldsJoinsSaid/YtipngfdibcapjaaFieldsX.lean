/-
  Layer 2, the document's answer: two that are the same.
-/
import Derived.Test.YtipngfdibcapjaaFieldsT
import Derived.Test.YtipngfdibcapjaaFieldsU
namespace Go.Proofs.Ytipngfdibcapjaa
open Go.RowKit
set_option linter.unusedVariables false
/-- Two that are the same are told to be so. -/
structure FlIn (w : World) (a : Option Addr) (d : Option Addr) (ns : List Int) (bs : List UInt8) : Prop where
  ints : CellsI w a ns
  bytes : CellsB w d bs
  none_ : d = none → bs.length = 0
theorem FlIn.below {w w' : World} {a d : Option Addr} {ns : List Int} {bs : List UInt8} (h : FlIn w a d ns bs) (hb : Below w.heap.size w w') : FlIn w' a d ns bs := ⟨h.ints.below hb, h.bytes.below hb, h.none_⟩
set_option maxHeartbeats 3200000 in
theorem sameF_eq (a : Option Addr) (c : Nat) (d : Option Addr) (cd : Nat) (a' : Option Addr) (c' : Nat) (d' : Option Addr) (cd' : Nat) (ns : List Int) (bs : List UInt8) (w : World) (h : FlIn w a d ns bs) (h' : FlIn w a' d' ns bs) (hm : ns.length ≤ 1000000) :
    Calls Try.prog 17 #[.agg #[.slice a ns.length c, .slice d bs.length cd], .agg #[.slice a' ns.length c', .slice d' bs.length cd']] w fun e w' => e = .returned (.bool true) ∧ Below w.heap.size w w' := by
  have hbw := below2 w (.cells #[.slice a ns.length c, .slice d bs.length cd] 25) (.cells #[.slice a' ns.length c', .slice d' bs.length cd'] 25)
  have hcv1 := run_convert_cells (bs := bs) cd _ (h.bytes.below hbw) h.none_
  have hcv2 := run_convert_cells (bs := bs) cd' _ (h'.bytes.below hbw) h'.none_
  have g0 := alloc2_fst w (.cells #[.slice a ns.length c, .slice d bs.length cd] 25) (.cells #[.slice a' ns.length c', .slice d' bs.length cd'] 25)
  have g1 := alloc2_snd w (.cells #[.slice a ns.length c, .slice d bs.length cd] 25) (.cells #[.slice a' ns.length c', .slice d' bs.length cd'] 25)
  have HI := Lib.hid h.ints
  have HI' := Lib.hid h'.ints
  obtain ⟨hc0, hc1, hf0, hf1, hlt0⟩ := box2 g0
  obtain ⟨rc0, rc1, rf0, rf1, hlt1⟩ := box2 g1
  clear h h' g0 g1
  have HBW := Lib.hid hbw
  clear hbw
  go_enter Try.func17, Try.ntmps17
  go_wp2
  go_loopw [5] (fun i wr => ∃ k : Nat, k ≤ ns.length ∧ i = .int .i64 (k : Int) ∧ wr.heap[w.heap.size]? = some (.cells #[.slice a ns.length c, .slice d bs.length cd] 25) ∧ wr.heap[w.heap.size + 1]? = some (.cells #[.slice a' ns.length c', .slice d' bs.length cd'] 25) ∧ Below w.heap.size w wr) (fun i _ => ns.length - (intOf i).toNat)
  case atStart => exact ⟨0, by omega, rfl, alloc2_fst _ _ _, alloc2_snd _ _ _, below2 _ _ _⟩
  case round =>
    obtain ⟨k, hk, rfl, g0, g1, hw0⟩ := hrel
    obtain ⟨hc0, hc1, hf0, hf1, hlt0⟩ := box2 g0
    obtain ⟨rc0, rc1, rf0, rf1, hlt1⟩ := box2 g1
    by_cases hlt : k < ns.length
    · obtain ⟨b, off, rfl, hblt, hx⟩ := (HI.out.below hw0).at hlt
      obtain ⟨b', off', rfl, hblt', hx'⟩ := (HI'.out.below hw0).at hlt
      generalize (ns[k]'hlt) = x at hx hx'
      have hk0 : (0 : Int) ≤ (k : Int) := by omega
      have hk1 : (k : Int) < (ns.length : Int) := by omega
      have hk2 : (k : Int) ≤ 1000000 := by omega
      go_wp2
      go_quiet (fail)
      go_wp2
      go_roundw
      case rel => exact ⟨k + 1, by omega, by go_num, blk_many g0 nq, blk_many g1 nq, Below.many hw0 nq⟩
      case measure => simp [intOf]; omega
    · have hnl : decide ((k : Int) < (ns.length : Int)) = false := decide_eq_false (by omega)
      go_wp2
      go_ret
      exact ⟨rfl, hw0⟩
end Go.Proofs.Ytipngfdibcapjaa
