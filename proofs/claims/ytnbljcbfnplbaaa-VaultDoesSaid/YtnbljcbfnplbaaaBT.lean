/-
  BT: several texts in one.
-/
import Derived.Test.YtnbljcbfnplbaaaFieldsS
import Derived.Test.YtnbljcbfnplbaaaFieldsR
/-
  Layer 2: Unpack.
-/
namespace Go.Proofs.Ytnbljcbfnplbaaa
open Go.RowKit
set_option linter.unusedVariables false
/-- Numbers and bytes, and an error, returned. -/
def RetUn (r : Int × List Int × List UInt8) (w : World) (en : Ending) (w' : World) : Prop :=
  ∃ a1 c1 a2 c2, en = .returned (.tuple #[.agg #[.slice a1 r.2.1.length c1, .slice a2 r.2.2.length c2], .int .i64 r.1]) ∧ w'.ownsRow w.heap.size 3 1 (.slice a1 r.2.1.length c1) r.2.1.length (r.2.1.map intV) ∧ w'.ownsRow w.heap.size 5 1 (.slice a2 r.2.2.length c2) r.2.2.length (r.2.2.map byteV) ∧ Below w.heap.size w w'
theorem RetUn.none (e : Int) {w w' : World} {en : Ending} (h : en = .returned (.tuple #[.agg #[.slice Option.none 0 0, .slice Option.none 0 0], .int .i64 e])) (hb : Below w.heap.size w w') : RetUn (e, [], []) w en w' := ⟨Option.none, 0, Option.none, 0, h, World.ownsRow_nil _ _ _ _, World.ownsRow_nil _ _ _ _, hb⟩
set_option maxRecDepth 100000 in
set_option maxHeartbeats 3200000 in
theorem unpack_any (a : Option Addr) (cap : Nat) (bs : List UInt8) (w : World) (hb : CellsB w a bs) (hcap : bs.length ≤ cap) (hz : a = none → bs.length = 0) (hlm : bs.length ≤ 1000000) :
    Calls Try.prog 61 #[.slice a bs.length cap] w (RetUn (unpackP bs) w) := by
  have HC : Hid (∀ W, Below w.heap.size w W → Calls Try.prog 70 #[.slice a bs.length cap] W (RetCut (cutP bs) W)) := fun W h => cut_any a cap bs W (hb.below h) hcap hz hlm
  clear hb hz
  have hu : unpackP bs = unpackP bs := rfl
  rw (config := { occs := .pos [2] }) [unpackP] at hu
  rw [hu]
  clear hu
  generalize cutP bs = r at HC
  obtain ⟨re, r1, r2, rn⟩ := r
  simp only
  by_cases he : re = 0
  · subst he
    by_cases hn : rn = bs.length
    · rw [if_neg (fun h => h.2 hn)]
      have hn1 : ((rn : Int) != (bs.length : Int)) = false := by simp [hn]
      have HN := Lib.hid hn
      clear hn
      go_enter Try.func61, Try.ntmps61
      go_wp2_with (go_at_call 70; refine (HC.out _ (below1 _ _)).mono ?_; rintro en w1 ⟨a1, c1, a2, c2, rfl, own1, own2, hb1⟩; have hw1 := alloc_below hb1; have g0 := blk_keep hb1 (blk_new w _); obtain ⟨hc0, hc1, hf0, hf1, hlt0⟩ := box2 g0; have g1 := blk_new w1 (.cells #[.slice a1 r1.length c1, .slice a2 r2.length c2] 90); obtain ⟨fc0, fc1, ff0, ff1, flt⟩ := box2 g1; have g2 := blk_alloc g0 (.cells #[.slice a1 r1.length c1, .slice a2 r2.length c2] 90))
      obtain ⟨q0, q1, _⟩ := box2 (blk_alloc (set2_blk g0 (.slice a1 r1.length c1) (.slice a2 r2.length c2)) (.cells #[.slice a1 r1.length c1, .slice a2 r2.length c2] 90))
      refine bodyPost_ret (v := .tuple #[.agg #[.slice a1 r1.length c1, .slice a2 r2.length c2], .int .i64 0]) (by simp [results, Try.results61, go_sem, q0, q1]) rfl ?_
      have hs1 := hw1.size
      have o1 := own_base (base' := w.heap.size + 1) own1 (by simp)
      have o2 := own_base (base' := w.heap.size + 1) own2 (by simp)
      exact ⟨a1, c1, a2, c2, rfl, own_base (own_below (ownsRow_setCell_below (ownsRow_setCell_below o1 (a := ⟨w.heap.size, 0, none⟩) (by show w.heap.size < _; omega) _) (a := ⟨w.heap.size, 1, none⟩) (by show w.heap.size < _; omega) _) (below1 _ _)) (by omega), own_base (own_below (ownsRow_setCell_below (ownsRow_setCell_below o2 (a := ⟨w.heap.size, 0, none⟩) (by show w.heap.size < _; omega) _) (a := ⟨w.heap.size, 1, none⟩) (by show w.heap.size < _; omega) _) (below1 _ _)) (by omega), (set2_below hw1 (Nat.le_refl _) _ _).alloc (set2_below hw1 (Nat.le_refl _) _ _).size _⟩
    · rw [if_pos ⟨rfl, hn⟩]
      have hn1 : ((rn : Int) != (bs.length : Int)) = true := by simp; omega
      clear hn
      go_enter Try.func61, Try.ntmps61
      go_wp2_with (go_at_call 70; refine (HC.out _ (below1 _ _)).mono ?_; rintro en w1 ⟨a1, c1, a2, c2, rfl, own1, own2, hb1⟩; have hw1 := alloc_below hb1; have g0 := blk_keep hb1 (blk_new w _); obtain ⟨hc0, hc1, hf0, hf1, hlt0⟩ := box2 g0; have g1 := blk_new w1 (.cells #[.slice a1 r1.length c1, .slice a2 r2.length c2] 90); obtain ⟨fc0, fc1, ff0, ff1, flt⟩ := box2 g1; have g2 := blk_alloc g0 (.cells #[.slice a1 r1.length c1, .slice a2 r2.length c2] 90))
      obtain ⟨q0, q1, _⟩ := box2 (blk_alloc (set2_blk g0 (.slice none 0 0) (.slice none 0 0)) (.cells #[.slice a1 r1.length c1, .slice a2 r2.length c2] 90))
      refine bodyPost_ret (v := .tuple #[.agg #[.slice none 0 0, .slice none 0 0], .int .i64 2]) (by simp [results, Try.results61, go_sem, q0, q1]) rfl ?_
      exact RetUn.none 2 rfl ((set2_below hw1 (Nat.le_refl _) _ _).alloc (set2_below hw1 (Nat.le_refl _) _ _).size _)
  · rw [if_neg (fun h => he h.1)]
    have he1 : (re == 0) = false := by simpa using he
    clear he
    go_enter Try.func61, Try.ntmps61
    go_wp2_with (go_at_call 70; refine (HC.out _ (below1 _ _)).mono ?_; rintro en w1 ⟨a1, c1, a2, c2, rfl, own1, own2, hb1⟩; have hw1 := alloc_below hb1; have g0 := blk_keep hb1 (blk_new w _); obtain ⟨hc0, hc1, hf0, hf1, hlt0⟩ := box2 g0; have g1 := blk_new w1 (.cells #[.slice a1 r1.length c1, .slice a2 r2.length c2] 90); obtain ⟨fc0, fc1, ff0, ff1, flt⟩ := box2 g1; have g2 := blk_alloc g0 (.cells #[.slice a1 r1.length c1, .slice a2 r2.length c2] 90))
    obtain ⟨q0, q1, _⟩ := box2 (blk_alloc (set2_blk g0 (.slice a1 r1.length c1) (.slice a2 r2.length c2)) (.cells #[.slice a1 r1.length c1, .slice a2 r2.length c2] 90))
    refine bodyPost_ret (v := .tuple #[.agg #[.slice a1 r1.length c1, .slice a2 r2.length c2], .int .i64 re]) (by simp [results, Try.results61, go_sem, q0, q1]) rfl ?_
    have hs1 := hw1.size
    have o1 := own_base (base' := w.heap.size + 1) own1 (by simp)
    have o2 := own_base (base' := w.heap.size + 1) own2 (by simp)
    exact ⟨a1, c1, a2, c2, rfl, own_base (own_below (ownsRow_setCell_below (ownsRow_setCell_below o1 (a := ⟨w.heap.size, 0, none⟩) (by show w.heap.size < _; omega) _) (a := ⟨w.heap.size, 1, none⟩) (by show w.heap.size < _; omega) _) (below1 _ _)) (by omega), own_base (own_below (ownsRow_setCell_below (ownsRow_setCell_below o2 (a := ⟨w.heap.size, 0, none⟩) (by show w.heap.size < _; omega) _) (a := ⟨w.heap.size, 1, none⟩) (by show w.heap.size < _; omega) _) (below1 _ _)) (by omega), (set2_below hw1 (Nat.le_refl _) _ _).alloc (set2_below hw1 (Nat.le_refl _) _ _).size _⟩
end Go.Proofs.Ytnbljcbfnplbaaa

/-
  Layer 2, the document's answer: a number.
-/
namespace Go.Proofs.Ytnbljcbfnplbaaa
open Go.RowKit
set_option linter.unusedVariables false
theorem numP_ok {bs : List UInt8} {c : Nat} (hc : (bs.getD 0 0).toNat = c) (h0 : 0 < bs.length) (h7 : c ≤ 7) (hf : 0 < c → 2 ≤ bs.length → bs.getD 1 0 ≠ 0) (hl : 1 + c ≤ bs.length) : numP bs = (0, valB ((bs.drop 1).take c), 1 + c) := by
  unfold numP
  rw [hc, if_neg (by omega), if_neg (by omega), if_neg (fun h => hf h.1 h.2.1 h.2.2), if_neg (by omega)]
theorem numP_more {bs : List UInt8} {c : Nat} (hc : (bs.getD 0 0).toNat = c) (h7 : c ≤ 7) (hf : 0 < c → 2 ≤ bs.length → bs.getD 1 0 ≠ 0) (hl : bs.length < 1 + c) : numP bs = (3, 0, 0) := by
  unfold numP
  by_cases h0 : bs.length = 0
  · rw [if_pos h0]
  · rw [hc, if_neg h0, if_neg (by omega), if_neg (fun h => hf h.1 h.2.1 h.2.2), if_pos hl]
theorem numP_form {bs : List UInt8} {c : Nat} (hc : (bs.getD 0 0).toNat = c) (h0 : 0 < c) (h2 : 2 ≤ bs.length) (h1 : bs.getD 1 0 = 0) : numP bs = (2, 0, 0) := by
  unfold numP
  rw [hc, if_neg (by omega)]
  by_cases h7 : 7 < c
  · rw [if_pos h7]
  · rw [if_neg h7, if_pos ⟨h0, h2, h1⟩]
theorem numP_long {bs : List UInt8} {c : Nat} (hc : (bs.getD 0 0).toNat = c) (h0 : 0 < bs.length) (h7 : 7 < c) : numP bs = (2, 0, 0) := by
  unfold numP
  rw [hc, if_neg (by omega), if_pos h7]
set_option maxHeartbeats 6400000 in
theorem refNumber_any (a : Option Addr) (cap : Nat) (bs : List UInt8) (w : World) (hb : CellsB w a bs) (hlm : bs.length ≤ 1000000) :
    Calls Try.prog 72 #[.slice a bs.length cap] w fun e w' => e = .returned (.tuple #[.int .i64 (numP bs).2.1, .int .i64 (numP bs).2.2, .int .i64 (numP bs).1]) ∧ w = w' := by
  by_cases h0 : bs.length = 0
  · obtain rfl := List.eq_nil_of_length_eq_zero h0
    clear hb hlm h0
    go_enter Try.func72, Try.ntmps72
    go_wp2
    refine bodyPost_ret (v := .tuple #[.int .i64 0, .int .i64 0, .int .i64 3]) (by simp [results, Try.results72, go_sem]) rfl ?_
    exact ⟨rfl, rfl⟩
  have hl0 : 0 < bs.length := by omega
  have hl0' : (0 : Int) < (bs.length : Int) := by omega
  have hl1 : ((bs.length : Int) == 0) = false := by rw [beq_eq_false_iff_ne]; omega
  obtain ⟨b, off, rfl, hblt, hcell⟩ := hb.at (k := 0) hl0
  rw [Nat.add_zero] at hcell
  obtain ⟨c, hc⟩ : ∃ c, (bs.getD 0 0).toNat = c := ⟨_, rfl⟩
  rw [hc] at hcell
  have hc256 : c < 2 ^ 8 := by rw [← hc]; exact (bs.getD 0 0).toNat_lt
  have HCE := Lib.hid hc
  clear hc h0
  by_cases h7 : 7 < c
  · have HN := Lib.hid (numP_long HCE.out hl0 h7)
    have h7' : (7 : Int) < (c : Int) := by omega
    clear hb h7
    go_enter Try.func72, Try.ntmps72
    go_wp2
    refine bodyPost_ret (v := .tuple #[.int .i64 0, .int .i64 0, .int .i64 2]) (by simp [results, Try.results72, go_sem]) rfl ?_
    rw [HN.out]
    exact ⟨rfl, rfl⟩
  have h7' : (c : Int) ≤ 7 := by omega
  have HB := Lib.hid hb
  clear hb
  go_enter Try.func72, Try.ntmps72
  go_wp2
  go_loop [6, 7] (fun v i => ∃ j : Nat, j ≤ c ∧ j < bs.length ∧ i = .int .i64 ((j : Int) + 1) ∧ v = .int .i64 (valB ((bs.drop 1).take j)) ∧ Hid (0 < j → bs.getD 1 0 ≠ 0)) (fun _ i => 8 - (intOf i).toNat)
  case atStart => exact ⟨0, by omega, hl0, rfl, rfl, fun h => by omega⟩
  case round =>
    obtain ⟨j, hj, hjl, rfl, rfl, HF⟩ := hrel
    by_cases hlt : j < c
    · have hlt' : (j : Int) + 1 ≤ (c : Int) := by omega
      by_cases hm : bs.length ≤ j + 1
      · have HN := Lib.hid (numP_more HCE.out (by omega) (fun h1 h2 => by
          by_cases hj0 : 0 < j
          · exact HF.out hj0
          · omega) (by omega))
        have hm' : (bs.length : Int) ≤ (j : Int) + 1 := by omega
        clear hm
        go_wp2
        refine bodyPost_ret (v := .tuple #[.int .i64 0, .int .i64 0, .int .i64 3]) (by simp [results, Try.results72, go_sem]) rfl ?_
        rw [HN.out]
        exact ⟨rfl, rfl⟩
      · have hm' : (j : Int) + 1 < (bs.length : Int) := by omega
        have hj0 : (0 : Int) ≤ (j : Int) + 1 := by omega
        have hj1 : ((j : Int) + 1).toNat = j + 1 := by omega
        obtain ⟨b', off', hbb, hblt', hcell'⟩ := HB.out.at (k := j + 1) (by omega)
        cases hbb
        have hv2 : valB ((bs.drop 1).take j) < 281474976710656 := by
          have h1 := valB_lt ((bs.drop 1).take j)
          have h2 := Nat.pow_le_pow_right (show 0 < 256 by decide) (show ((bs.drop 1).take j).length ≤ 6 by rw [List.length_take]; omega)
          exact Nat.lt_of_lt_of_le h1 h2
        have hv1 : valB ((bs.drop 1).take (j + 1)) = valB ((bs.drop 1).take j) * 256 + (bs.getD (j + 1) 0).toNat := by
          have hkl : j < (bs.drop 1).length := by rw [List.length_drop]; omega
          rw [List.take_add_one, List.getElem?_eq_getElem hkl, Option.toList_some, valB_snoc, List.getElem_drop, List.getD_eq_getElem?_getD, List.getElem?_eq_getElem (show j + 1 < bs.length by omega)]
          congr 3
          simp [Nat.add_comm]
        have hd := (bs.getD (j + 1) 0).toNat_lt
        have HV1 := Lib.hid hv1
        clear hv1
        by_cases hj00 : j = 0
        · subst hj00
          by_cases hz : bs.getD 1 0 = 0
          · have HN := Lib.hid (numP_form HCE.out (by omega) (by omega) hz)
            have hl1' : (1 : Int) < (bs.length : Int) := by omega
            simp only [Nat.zero_add] at hcell'
            rw [hz] at hcell'
            have h00 : ((0 : UInt8).toNat : Int) = 0 := rfl
            rw [h00] at hcell'
            clear hz h00 hv2
            go_wp2
            refine bodyPost_ret (v := .tuple #[.int .i64 0, .int .i64 0, .int .i64 2]) (by simp [results, Try.results72, go_sem]) rfl ?_
            rw [HN.out]
            exact ⟨rfl, rfl⟩
          · have hl1' : (1 : Int) < (bs.length : Int) := by omega
            simp only [Nat.zero_add] at hcell' HV1 hd
            have hy : (bs.getD 1 0).toNat ≠ 0 := fun h => hz (UInt8.toNat_inj.1 h)
            have HZ := Lib.hid hz
            clear hz
            generalize (bs.getD 1 0).toNat = y at hcell' HV1 hd hy
            have hy1 : ((y : Int) == 0) = false := by simpa using hy
            have HV0 : Hid (valB ((bs.drop 1).take 0) = 0) := rfl
            rw [HV0.out] at HV1 ⊢
            clear hv2
            go_wp2
            go_round
            case rel => exact ⟨1, by omega, by omega, rfl, by rw [HV1.out]; simp, fun _ => HZ.out⟩
            case measure => simp [intOf]
        · have hj11 : (((j : Int) + 1) == 1) = false := by rw [beq_eq_false_iff_ne]; omega
          generalize (bs.getD (j + 1) 0).toNat = y at hcell' HV1 hd
          generalize valB ((bs.drop 1).take j) = v at HV1 hv2
          have hjp : 0 < j := by omega
          clear hj00
          go_wp2
          go_round
          case rel => exact ⟨j + 1, by omega, by omega, by go_num, by rw [HV1.out]; simp, fun _ => HF.out hjp⟩
          case measure => simp [intOf]; omega
    · obtain rfl : j = c := by omega
      have HN := Lib.hid (numP_ok HCE.out hl0 (by omega) (fun h1 _ => HF.out h1) (by omega))
      have hnl : decide ((j : Int) + 1 ≤ (j : Int)) = false := decide_eq_false (by omega)
      generalize valB ((bs.drop 1).take j) = v at HN
      go_wp2
      refine bodyPost_ret (v := .tuple #[.int .i64 v, .int .i64 (1 + (j : Int)), .int .i64 0]) (by simp [results, Try.results72, go_sem]) rfl ?_
      rw [HN.out]
      exact ⟨by simp, rfl⟩
end Go.Proofs.Ytnbljcbfnplbaaa

/-
  Layer 2, the document's answer: the first numbers and bytes of some.
-/
namespace Go.Proofs.Ytnbljcbfnplbaaa
open Go.RowKit
set_option linter.unusedVariables false
set_option maxRecDepth 100000 in
set_option maxHeartbeats 12800000 in
theorem refCut_any (a : Option Addr) (cap : Nat) (bs : List UInt8) (w : World) (hb : CellsB w a bs) (hcap : bs.length ≤ cap) (hz : a = none → bs.length = 0) (hlm : bs.length ≤ 1000000) :
    Calls Try.prog 65 #[.slice a bs.length cap] w (RetCut (cutP bs) w) := by
  have A2 := And.intro (And.intro (alloc2_fst w (.cells #[.slice none 0 0, .slice none 0 0] 90) (.cells #[.slice none 0 0, .slice none 0 0] 90)) (alloc2_snd w (.cells #[.slice none 0 0, .slice none 0 0] 90) (.cells #[.slice none 0 0, .slice none 0 0] 90))) (below2 w (.cells #[.slice none 0 0, .slice none 0 0] 90) (.cells #[.slice none 0 0, .slice none 0 0] 90))
  have HA2 := Lib.hid A2
  clear A2
  have AL := alloc3 w (.cells #[.slice none 0 0, .slice none 0 0] 90) (.cells #[.slice none 0 0, .slice none 0 0] 90) (.cells #[.slice none 0 0, .slice none 0 0] 90)
  have HAL := Lib.hid AL
  clear AL
  by_cases h0 : bs.length = 0
  · obtain rfl := List.eq_nil_of_length_eq_zero h0
    have HRet : Hid (cutP [] = (3, [], [], 0)) := rfl
    clear hb hz hcap hlm h0
    obtain ⟨⟨g0, g1⟩, hw0⟩ := HA2.out
    obtain ⟨hc0, hc1, hf0, hf1, hlt0⟩ := box2 g0
    obtain ⟨rc0, rc1, rf0, rf1, hlt1⟩ := box2 g1
    go_enter Try.func65, Try.ntmps65
    go_wp2
    refine bodyPost_ret (v := .tuple #[.agg #[.slice none 0 0, .slice none 0 0], .int .i64 0, .int .i64 3]) (by simp [results, Try.results65, go_sem]) rfl ?_
    rw [HRet.out]
    exact RetCut.none _ rfl hw0
  have hl0 : 0 < bs.length := by omega
  have hl0' : (0 : Int) < (bs.length : Int) := by omega
  have hl1 : ((bs.length : Int) == 0) = false := by rw [beq_eq_false_iff_ne]; omega
  have hlm' : (bs.length : Int) ≤ 1000000 := by omega
  obtain ⟨b, off, rfl, hblt, hcell⟩ := hb.at (k := 0) hl0
  rw [Nat.add_zero] at hcell
  have hcu : cutP bs = (if (numsA bs (bs.getD 0 0).toNat 1 []).1 = 0 then tailP bs (numsA bs (bs.getD 0 0).toNat 1 []).2.1 (numsA bs (bs.getD 0 0).toNat 1 []).2.2 else ((numsA bs (bs.getD 0 0).toNat 1 []).1, [], [], 0)) := if_neg h0
  have hc256 := (bs.getD 0 0).toNat_lt
  generalize (bs.getD 0 0).toNat = c at hcell hcu hc256
  obtain ⟨T, hT⟩ : ∃ T, numsA bs c 1 [] = T := ⟨_, rfl⟩
  rw [hT] at hcu
  have HC := Lib.hid hcu
  have HB := Lib.hid hb
  have HT := Lib.hid hT
  clear hcu hb hT h0
  go_enter Try.func65, Try.ntmps65
  go_wp2
  go_loopw [7, 8] (fun q i wr => ∃ (j p : Nat) (acc : List Int) (aN : Option Addr) (cN : Nat), j ≤ c ∧ p ≤ bs.length ∧ acc.length = j ∧ i = .int .i64 (j : Int) ∧ q = .int .i64 (p : Int) ∧ Hid (numsA bs (c - j) p acc = T) ∧
    wr.heap[w.heap.size]? = some (.cells #[.slice none 0 0, .slice none 0 0] 90) ∧ wr.heap[w.heap.size + 1]? = some (.cells #[.slice none 0 0, .slice none 0 0] 90) ∧ wr.heap[w.heap.size + 2]? = some (.cells #[.slice aN acc.length cN, .slice none 0 0] 90) ∧ wr.ownsRow (w.heap.size + 3) 3 1 (.slice aN acc.length cN) acc.length (acc.map intV) ∧ Below w.heap.size w wr) (fun _ i _ => c - (intOf i).toNat)
  case atStart => exact ⟨0, 1, [], none, 0, by omega, hl0, rfl, rfl, rfl, HT, HAL.out.1.1, HAL.out.1.2.1, HAL.out.1.2.2, World.ownsRow_nil _ _ _ _, HAL.out.2.2⟩
  case round =>
    obtain ⟨j, p, acc, aN, cN, hj, hp, hal, rfl, rfl, HN, g0, g1, g2, hown, hw0⟩ := hrel
    have hsz : w.heap.size + 3 ≤ wr.heap.size := blk_lt g2
    have hcw := ((bcell hw0).1 b off hblt).trans hcell
    have hbw := Nat.lt_of_lt_of_le hblt hw0.size
    obtain ⟨xc0, xc1, xf0, xf1, xlt⟩ := box2 g0
    obtain ⟨nc0, nc1, nf0, nf1, nlt⟩ := box2 g1
    obtain ⟨fc0, fc1, ff0, ff1, flt⟩ := box2 g2
    have HAl := Lib.hid hal
    clear hal
    by_cases hlt : j < c
    · have hlt' : (j : Int) < (c : Int) := by omega
      have hsl := fun W => slice_from (some ⟨b, off, none⟩) bs.length cap p hp W
      have HNu : Hid (∀ W, Below w.heap.size w W → Calls Try.prog 72 #[.slice (cutA (some ⟨b, off, none⟩) cap p) (bs.length - p) (cap - p)] W fun e w' => e = .returned (.tuple #[.int .i64 (numP (bs.drop p)).2.1, .int .i64 (numP (bs.drop p)).2.2, .int .i64 (numP (bs.drop p)).1]) ∧ W = w') := fun W h => by
        have := refNumber_any (cutA (some ⟨b, off, none⟩) cap p) (cap - p) (bs.drop p) W ((HB.out.cut cap p hcap).below h) (by rw [List.length_drop]; omega)
        rwa [List.length_drop] at this
      have HG : Hid ((numP (bs.drop p)).1 = 0 → numsA bs (c - (j + 1)) (p + (numP (bs.drop p)).2.2) (acc ++ [((numP (bs.drop p)).2.1 : Int)]) = T ∧ p + (numP (bs.drop p)).2.2 ≤ bs.length) := fun h => by
        refine ⟨?_, ?_⟩
        · have := HN.out
          rwa [show c - j = (c - (j + 1)) + 1 by omega, numsA_go h] at this
        · obtain ⟨rest, h1, _, h3⟩ := numP_zero h
          have := congrArg List.length h1
          rw [List.length_drop, List.length_append, ← h3] at this
          omega
      have HS : Hid ((numP (bs.drop p)).1 ≠ 0 → T = ((numP (bs.drop p)).1, [], 0)) := fun h => by
        have := HN.out
        rw [show c - j = (c - (j + 1)) + 1 by omega, numsA_stop h] at this
        exact this.symm
      clear HN
      generalize numP (bs.drop p) = r at HNu HG HS
      obtain ⟨re, rv, rn⟩ := r
      simp only at HNu HG HS
      generalize cutA (some ⟨b, off, none⟩) cap p = A at hsl HNu
      by_cases he : re = 0
      · subst he
        have HG1 : Hid (numsA bs (c - (j + 1)) (p + rn) (acc ++ [(rv : Int)]) = T) := (HG.out rfl).1
        have hpr := (HG.out rfl).2
        have hpr' : (p : Int) + (rn : Int) ≤ (bs.length : Int) := by omega
        have hacc : acc.length ≤ 255 := by have := HAl.out; omega
        clear HG HS
        go_wp2_with (first
          | (go_at_call 72; refine (HNu.out _ hw0).mono ?_; rintro en w1 ⟨rfl, rfl⟩)
          | (at_builtin; refine wpList_append_row rfl (.tmp 40) (.tmp 42) rfl elemI (w.heap.size + 3) (.slice aN acc.length cN) acc.length (acc.map intV) (by rfl) (own_below hown (below1 wr (.cells #[.int .i64 rv] 3))) (some ⟨wr.heap.size, 0, none⟩) 1 1 [.int .i64 rv] (by rfl) (by rfl) (RowAt.new wr #[.int .i64 rv] 3) (intV_one [(rv : Int)]) (by unfold maxLen; omega) (by omega) (by simp; omega) (fun h => by cases h) ?_; intro a2 c2 w2 hown2 hg2 hat2; have hne : ∀ k, k < w.heap.size + 3 → (Value.slice aN acc.length cN).ownBlock ≠ some k := (fun k hk e => by have := (hown.lt _ e).1; omega); have hw2 := Below.appended (hw0.alloc hw0.size (.cells #[.int .i64 rv] 3)) (own_below hown (below1 wr (.cells #[.int .i64 rv] 3))) hg2 (hw0.alloc hw0.size (.cells #[.int .i64 rv] 3)).size (by omega); have x2 := blk_grown hg2 (blk_alloc g0 (.cells #[.int .i64 rv] 3)) (hne _ (by omega)); have n2 := blk_grown hg2 (blk_alloc g1 (.cells #[.int .i64 rv] 3)) (hne _ (by omega)); have f2 := blk_grown hg2 (blk_alloc g2 (.cells #[.int .i64 rv] 3)) (hne _ (by omega)); obtain ⟨fd0, fd1, fh0, fh1, flt2⟩ := box2 f2))
        have hl1 : (acc ++ [(rv : Int)]).length = acc.length + 1 := by simp
        have hown3 : (w2.setCell ⟨w.heap.size + 2, 0, none⟩ (.slice a2 (acc.length + 1) c2)).ownsRow (w.heap.size + 3) 3 1 (.slice a2 (acc.length + 1) c2) (acc.length + 1) ((acc ++ [(rv : Int)]).map intV) := ownsRow_setCell_below (by rw [List.map_append]; exact hown2) (a := ⟨w.heap.size + 2, 0, none⟩) (by show w.heap.size + 2 < _; omega) _
        have f3 := blk_set (i := 0) f2 (.slice a2 (acc.length + 1) c2)
        have x3 := blk_far (i := 0) x2 (G := w.heap.size + 2) (by omega) (.slice a2 (acc.length + 1) c2)
        have n3 := blk_far (i := 0) n2 (G := w.heap.size + 2) (by omega) (.slice a2 (acc.length + 1) c2)
        have hw3 := hw2.setCell (p := ⟨w.heap.size + 2, 0, none⟩) (by show w.heap.size ≤ w.heap.size + 2; omega) (.slice a2 (acc.length + 1) c2)
        go_roundw
        case rel => exact ⟨j + 1, p + rn, acc ++ [(rv : Int)], a2, c2, by omega, hpr, by rw [hl1, HAl.out], by go_num, by go_num, HG1, x3, n3, by rw [hl1]; exact f3, by rw [hl1]; exact hown3, hw3⟩
        case measure => simp [intOf]; omega
      · have he1 : (re != 0) = true := by simpa using he
        have HRet : Hid (cutP bs = (re, [], [], 0)) := by rw [Hid, HC.out, HS.out he, if_neg he]
        clear HG HS he
        go_wp2_with (go_at_call 72; refine (HNu.out _ hw0).mono ?_; rintro en w1 ⟨rfl, rfl⟩)
        obtain ⟨q0, q1, _⟩ := box2 (set2_blk (g0) (.slice none 0 0) (.slice none 0 0))
        refine bodyPost_ret (v := .tuple #[.agg #[.slice none 0 0, .slice none 0 0], .int .i64 0, .int .i64 re]) (by simp [results, Try.results65, go_sem, q0, q1]) rfl ?_
        rw [HRet.out]
        exact RetCut.none _ rfl (set2_below (hw0) (Nat.le_refl _) _ _)
    · obtain rfl : j = c := by omega
      have hTT := HN.out
      rw [Nat.sub_self, show numsA bs 0 p acc = (0, acc, p) from rfl] at hTT
      subst hTT
      have HC2 : Hid (cutP bs = tailP bs acc p) := by rw [Hid, HC.out, if_pos rfl]
      clear HC HT HN hlt
      have hnl : decide ((j : Int) < (j : Int)) = false := decide_eq_false (by omega)
      by_cases c1 : bs.length < p + 2
      · have HRet : Hid (cutP bs = (3, [], [], 0)) := by rw [Hid, HC2.out]; unfold tailP; rw [if_pos c1]
        have c1' : (bs.length : Int) - (p : Int) < 2 := by omega
        clear c1
        go_wp2
        obtain ⟨q0, q1, _⟩ := box2 (set2_blk (g0) (.slice none 0 0) (.slice none 0 0))
        refine bodyPost_ret (v := .tuple #[.agg #[.slice none 0 0, .slice none 0 0], .int .i64 0, .int .i64 3]) (by simp [results, Try.results65, go_sem, q0, q1]) rfl ?_
        rw [HRet.out]
        exact RetCut.none _ rfl (set2_below (hw0) (Nat.le_refl _) _ _)
      have hTail : tailP bs acc p = (if 4096 < szP bs p then (7, [], [], 0) else if bs.length < p + 2 + szP bs p then (3, [], [], 0) else (0, acc, (bs.drop (p + 2)).take (szP bs p), p + 2 + szP bs p)) := by unfold tailP; rw [if_neg c1]
      obtain ⟨b1, off1, hb1, _, hcp⟩ := HB.out.at (k := p) (by omega)
      cases hb1
      obtain ⟨b1, off1, hb1, _, hcq⟩ := HB.out.at (k := p + 1) (by omega)
      cases hb1
      have hcp1 := ((bcell hw0).1 b (off + p) hblt).trans hcp
      have hcq1 := ((bcell hw0).1 b (off + (p + 1)) hblt).trans hcq
      have hx := (bs.getD p 0).toNat_lt
      have hy := (bs.getD (p + 1) 0).toNat_lt
      unfold szP at hTail
      generalize (bs.getD p 0).toNat = x at hcp1 hx hTail
      generalize (bs.getD (p + 1) 0).toNat = y at hcq1 hy hTail
      have c1' : decide ((bs.length : Int) - (p : Int) < 2) = false := decide_eq_false (by omega)
      have d1 : (0 : Int) ≤ (p : Int) + 1 := by omega
      have d2 : (p : Int) + 1 < (bs.length : Int) := by omega
      have d3 : ((p : Int) + 1).toNat = p + 1 := by omega
      have d4 : (p : Int) < (bs.length : Int) := by omega
      have b1 : -9223372036854775808 ≤ (x : Int) * 256 ∧ (x : Int) * 256 ≤ 9223372036854775807 := by omega
      have b2 : -9223372036854775808 ≤ (p : Int) + 1 ∧ (p : Int) + 1 ≤ 9223372036854775807 := by omega
      have b3 : -9223372036854775808 ≤ (x : Int) * 256 + (y : Int) ∧ (x : Int) * 256 + (y : Int) ≤ 9223372036854775807 := by omega
      have HW : Hid (IntKind.i64.wrap ((x : Int) * 256) = (x : Int) * 256 ∧ IntKind.i64.wrap ((p : Int) + 1) = (p : Int) + 1 ∧ IntKind.i64.wrap ((x : Int) * 256 + (y : Int)) = (x : Int) * 256 + (y : Int) ∧ IntKind.i64.wrap (x : Int) = (x : Int) ∧ IntKind.i64.wrap (y : Int) = (y : Int)) := ⟨wrap_id b1.1 b1.2, wrap_id b2.1 b2.2, wrap_id b3.1 b3.2, wrap_id (by omega) (by omega), wrap_id (by omega) (by omega)⟩
      clear b1 b2 b3 hcp hcq
      by_cases c2 : 4096 < x * 256 + y
      · rw [if_pos c2] at hTail
        have HRet : Hid (cutP bs = (7, [], [], 0)) := by rw [Hid, HC2.out, hTail]
        have c2' : (4096 : Int) < (x : Int) * 256 + (y : Int) := by omega
        clear hTail c1
        obtain ⟨e1, e2, e3, e4, e5⟩ := HW.out
        go_wp2
        go_quiet (fail)
        clear e1 e2 e3 e4 e5
        go_wp2
        obtain ⟨q0, q1, _⟩ := box2 (set2_blk (blk_many g0 nq) (.slice none 0 0) (.slice none 0 0))
        refine bodyPost_ret (v := .tuple #[.agg #[.slice none 0 0, .slice none 0 0], .int .i64 0, .int .i64 7]) (by simp [results, Try.results65, go_sem, q0, q1]) rfl ?_
        rw [HRet.out]
        exact RetCut.none _ rfl (set2_below (Below.many hw0 nq) (Nat.le_refl _) _ _)
      rw [if_neg c2] at hTail
      have c2' : decide ((4096 : Int) < (x : Int) * 256 + (y : Int)) = false := decide_eq_false (by omega)
      by_cases c3 : bs.length < p + 2 + (x * 256 + y)
      · rw [if_pos c3] at hTail
        have HRet : Hid (cutP bs = (3, [], [], 0)) := by rw [Hid, HC2.out, hTail]
        have c3' : (bs.length : Int) - ((p : Int) + 2) < (x : Int) * 256 + (y : Int) := by omega
        clear hTail c1
        obtain ⟨e1, e2, e3, e4, e5⟩ := HW.out
        go_wp2
        go_quiet (fail)
        clear e1 e2 e3 e4 e5
        go_wp2
        obtain ⟨q0, q1, _⟩ := box2 (set2_blk (blk_many g0 nq) (.slice none 0 0) (.slice none 0 0))
        refine bodyPost_ret (v := .tuple #[.agg #[.slice none 0 0, .slice none 0 0], .int .i64 0, .int .i64 3]) (by simp [results, Try.results65, go_sem, q0, q1]) rfl ?_
        rw [HRet.out]
        exact RetCut.none _ rfl (set2_below (Below.many hw0 nq) (Nat.le_refl _) _ _)
      rw [if_neg c3] at hTail
      have HRet : Hid (cutP bs = (0, acc, (bs.drop (p + 2)).take (x * 256 + y), p + 2 + (x * 256 + y))) := by rw [Hid, HC2.out, hTail]
      have c3' : decide ((bs.length : Int) - ((p : Int) + 2) < (x : Int) * 256 + (y : Int)) = false := decide_eq_false (by omega)
      have hDl : ((bs.drop (p + 2)).take (x * 256 + y)).length = x * 256 + y := by rw [List.length_take, List.length_drop]; omega
      have hDc := (HB.out.cut cap (p + 2) hcap).take (x * 256 + y)
      have hDn := cutA_none (a := some ⟨b, off, none⟩) (cap := cap) (l := p + 2) (n := bs.length) (fun h => by cases h)
      have hsm := fun W => slice_mid (some ⟨b, off, none⟩) bs.length cap (p + 2) (p + 2 + (x * 256 + y)) (by omega) (by omega) W
      rw [show ((p + 2 : Nat) : Int) = (p : Int) + 2 by omega, show ((p + 2 + (x * 256 + y) : Nat) : Int) = (p : Int) + 2 + ((x : Int) * 256 + (y : Int)) by omega, show p + 2 + (x * 256 + y) - (p + 2) = x * 256 + y by omega] at hsm
      have b4 : -9223372036854775808 ≤ (p : Int) + 2 + ((x : Int) * 256 + (y : Int)) ∧ (p : Int) + 2 + ((x : Int) * 256 + (y : Int)) ≤ 9223372036854775807 := by omega
      have HW4 := Lib.hid (wrap_id b4.1 b4.2)
      have HDl := Lib.hid hDl
      have HDn : Hid (cutA (some ⟨b, off, none⟩) cap (p + 2) = none → x * 256 + y = 0) := fun h => by have := hDn h; omega
      have hs64 : x * 256 + y ≤ 4096 := by omega
      clear hTail c1 b4 hDn c2 c3 hDl
      generalize (bs.drop (p + 2)).take (x * 256 + y) = D at HRet HDl hDc
      generalize cutA (some ⟨b, off, none⟩) cap (p + 2) = A at hsm hDc HDn
      have HDc := Lib.hid hDc
      clear hDc
      obtain ⟨e1, e2, e3, e4, e5⟩ := HW.out
      go_wp2
      go_quiet (fail)
      clear e1 e2 e3 e4 e5
      go_wp2
      have e6 := HW4.out
      go_region_law (first
        | (refine step_append_row rfl (.const (.slice none 0 0)) (.tmp 86) rfl elemB 0 (.slice none 0 0) 0 [] (by rfl) (World.ownsRow_nil _ _ _ _) A (x * 256 + y) (cap - (p + 2)) (D.map byteV) (by rfl) (by have := HDl.out; simp; omega) (HDc.out.below hw0) (byteV_one _) (by unfold maxLen; omega) (by omega) (by omega) HDn.out ?_; intro a2 c2 w2 hown2 hg2 hat2)
        | (refine step_append_row rfl (.tmp 80) (.tmp 86) rfl elemB (w.heap.size + 3) (.slice none 0 0) 0 [] (by rfl) (World.ownsRow_nil _ _ _ _) A (x * 256 + y) (cap - (p + 2)) (D.map byteV) (by rfl) (by have := HDl.out; simp; omega) (HDc.out.below (Below.many hw0 nq).drew) (byteV_one _) (by unfold maxLen; omega) (by omega) (by simp; omega) HDn.out ?_; intro a2 c2 w2 hown2 hg2 hat2; simp only [Nat.zero_add, List.nil_append] at hown2; have hw2 := Below.appended (Below.many hw0 nq).drew (World.ownsRow_nil (wr.drewN nq).drew (w.heap.size + 3) 5 1) hg2 (Below.many hw0 nq).drew.size (by omega); have x2 := blk_grown hg2 (blk_drawn (blk_many g0 nq)) (by simp [Value.ownBlock]); have f2 := blk_grown hg2 (blk_drawn (blk_many g2 nq)) (by simp [Value.ownBlock]); have hgs := hg2.size; obtain ⟨fd0, fd1, fh0, fh1, flt2⟩ := box2 f2))
      clear e6
      have hW3 : w.heap.size + 3 ≤ w2.heap.size := flt2
      have f3 := blk_set (i := 1) f2 (.slice a2 (x * 256 + y) c2)
      have x3 := blk_far (i := 1) x2 (G := w.heap.size + 2) (by omega) (.slice a2 (x * 256 + y) c2)
      have hw3 := hw2.setCell (p := ⟨w.heap.size + 2, 1, none⟩) (by show w.heap.size ≤ w.heap.size + 2; omega) (.slice a2 (x * 256 + y) c2)
      have own3 := World.ownsRow.kept (own_drawn (own_many hown nq)) hg2 (by
        cases h : (Value.slice aN acc.length cN).ownBlock with
        | none => exact .inl rfl
        | some g => exact .inr (fun h => by simp [Value.ownBlock] at h))
      obtain ⟨xd0, xd1, xe0, xe1, xlt3⟩ := box2 x3
      obtain ⟨fe0, fe1, fi0, fi1, flt3⟩ := box2 f3
      go_wp2
      obtain ⟨q0, q1, _⟩ := box2 (set2_blk x3 (.slice aN acc.length cN) (.slice a2 (x * 256 + y) c2))
      refine bodyPost_ret (v := .tuple #[.agg #[.slice aN acc.length cN, .slice a2 (x * 256 + y) c2], .int .i64 ((p : Int) + 2 + ((x : Int) * 256 + (y : Int))), .int .i64 0]) (by simp [results, Try.results65, go_sem, q0, q1]) rfl ?_
      rw [HRet.out]
      refine ⟨aN, cN, a2, c2, ?_, ?_, ?_, set2_below hw3 (Nat.le_refl _) _ _⟩
      · simp only [HDl.out]
        rw [show ((p + 2 + (x * 256 + y) : Nat) : Int) = (p : Int) + 2 + ((x : Int) * 256 + (y : Int)) by omega]
      · exact own_base (base := w.heap.size + 3) (ownsRow_setCell_below (ownsRow_setCell_below (ownsRow_setCell_below own3 (a := ⟨w.heap.size + 2, 1, none⟩) (by show w.heap.size + 2 < _; omega) _) (a := ⟨w.heap.size, 0, none⟩) (by show w.heap.size < _; omega) _) (a := ⟨w.heap.size, 1, none⟩) (by show w.heap.size < _; omega) _) (by omega)
      · simp only [HDl.out]
        exact own_base (base := w.heap.size + 3) (ownsRow_setCell_below (ownsRow_setCell_below (ownsRow_setCell_below hown2 (a := ⟨w.heap.size + 2, 1, none⟩) (by show w.heap.size + 2 < _; omega) _) (a := ⟨w.heap.size, 0, none⟩) (by show w.heap.size < _; omega) _) (a := ⟨w.heap.size, 1, none⟩) (by show w.heap.size < _; omega) _) (by omega)
end Go.Proofs.Ytnbljcbfnplbaaa

/-
  Layer 2, the document's answer: Unpack.
-/
namespace Go.Proofs.Ytnbljcbfnplbaaa
open Go.RowKit
set_option linter.unusedVariables false
set_option maxRecDepth 100000 in
set_option maxHeartbeats 3200000 in
theorem refUnpack_any (a : Option Addr) (cap : Nat) (bs : List UInt8) (w : World) (hb : CellsB w a bs) (hcap : bs.length ≤ cap) (hz : a = none → bs.length = 0) (hlm : bs.length ≤ 1000000) :
    Calls Try.prog 53 #[.slice a bs.length cap] w (RetUn (unpackP bs) w) := by
  have HC : Hid (∀ W, Below w.heap.size w W → Calls Try.prog 65 #[.slice a bs.length cap] W (RetCut (cutP bs) W)) := fun W h => refCut_any a cap bs W (hb.below h) hcap hz hlm
  clear hb hz
  have hu : unpackP bs = unpackP bs := rfl
  rw (config := { occs := .pos [2] }) [unpackP] at hu
  rw [hu]
  clear hu
  generalize cutP bs = r at HC
  obtain ⟨re, r1, r2, rn⟩ := r
  simp only
  by_cases he : re = 0
  · subst he
    by_cases hn : rn = bs.length
    · rw [if_neg (fun h => h.2 hn)]
      have hn1 : ((rn : Int) != (bs.length : Int)) = false := by simp [hn]
      have HN := Lib.hid hn
      clear hn
      go_enter Try.func53, Try.ntmps53
      go_wp2_with (go_at_call 65; refine (HC.out _ (below1 _ _)).mono ?_; rintro en w1 ⟨a1, c1, a2, c2, rfl, own1, own2, hb1⟩; have hw1 := alloc_below hb1; have g0 := blk_keep hb1 (blk_new w _); obtain ⟨hc0, hc1, hf0, hf1, hlt0⟩ := box2 g0; have g1 := blk_new w1 (.cells #[.slice a1 r1.length c1, .slice a2 r2.length c2] 90); obtain ⟨fc0, fc1, ff0, ff1, flt⟩ := box2 g1; have g2 := blk_alloc g0 (.cells #[.slice a1 r1.length c1, .slice a2 r2.length c2] 90))
      obtain ⟨q0, q1, _⟩ := box2 (blk_alloc (set2_blk g0 (.slice a1 r1.length c1) (.slice a2 r2.length c2)) (.cells #[.slice a1 r1.length c1, .slice a2 r2.length c2] 90))
      refine bodyPost_ret (v := .tuple #[.agg #[.slice a1 r1.length c1, .slice a2 r2.length c2], .int .i64 0]) (by simp [results, Try.results53, go_sem, q0, q1]) rfl ?_
      have hs1 := hw1.size
      have o1 := own_base (base' := w.heap.size + 1) own1 (by simp)
      have o2 := own_base (base' := w.heap.size + 1) own2 (by simp)
      exact ⟨a1, c1, a2, c2, rfl, own_base (own_below (ownsRow_setCell_below (ownsRow_setCell_below o1 (a := ⟨w.heap.size, 0, none⟩) (by show w.heap.size < _; omega) _) (a := ⟨w.heap.size, 1, none⟩) (by show w.heap.size < _; omega) _) (below1 _ _)) (by omega), own_base (own_below (ownsRow_setCell_below (ownsRow_setCell_below o2 (a := ⟨w.heap.size, 0, none⟩) (by show w.heap.size < _; omega) _) (a := ⟨w.heap.size, 1, none⟩) (by show w.heap.size < _; omega) _) (below1 _ _)) (by omega), (set2_below hw1 (Nat.le_refl _) _ _).alloc (set2_below hw1 (Nat.le_refl _) _ _).size _⟩
    · rw [if_pos ⟨rfl, hn⟩]
      have hn1 : ((rn : Int) != (bs.length : Int)) = true := by simp; omega
      clear hn
      go_enter Try.func53, Try.ntmps53
      go_wp2_with (go_at_call 65; refine (HC.out _ (below1 _ _)).mono ?_; rintro en w1 ⟨a1, c1, a2, c2, rfl, own1, own2, hb1⟩; have hw1 := alloc_below hb1; have g0 := blk_keep hb1 (blk_new w _); obtain ⟨hc0, hc1, hf0, hf1, hlt0⟩ := box2 g0; have g1 := blk_new w1 (.cells #[.slice a1 r1.length c1, .slice a2 r2.length c2] 90); obtain ⟨fc0, fc1, ff0, ff1, flt⟩ := box2 g1; have g2 := blk_alloc g0 (.cells #[.slice a1 r1.length c1, .slice a2 r2.length c2] 90))
      obtain ⟨q0, q1, _⟩ := box2 (blk_alloc (set2_blk g0 (.slice none 0 0) (.slice none 0 0)) (.cells #[.slice a1 r1.length c1, .slice a2 r2.length c2] 90))
      refine bodyPost_ret (v := .tuple #[.agg #[.slice none 0 0, .slice none 0 0], .int .i64 2]) (by simp [results, Try.results53, go_sem, q0, q1]) rfl ?_
      exact RetUn.none 2 rfl ((set2_below hw1 (Nat.le_refl _) _ _).alloc (set2_below hw1 (Nat.le_refl _) _ _).size _)
  · rw [if_neg (fun h => he h.1)]
    have he1 : (re == 0) = false := by simpa using he
    clear he
    go_enter Try.func53, Try.ntmps53
    go_wp2_with (go_at_call 65; refine (HC.out _ (below1 _ _)).mono ?_; rintro en w1 ⟨a1, c1, a2, c2, rfl, own1, own2, hb1⟩; have hw1 := alloc_below hb1; have g0 := blk_keep hb1 (blk_new w _); obtain ⟨hc0, hc1, hf0, hf1, hlt0⟩ := box2 g0; have g1 := blk_new w1 (.cells #[.slice a1 r1.length c1, .slice a2 r2.length c2] 90); obtain ⟨fc0, fc1, ff0, ff1, flt⟩ := box2 g1; have g2 := blk_alloc g0 (.cells #[.slice a1 r1.length c1, .slice a2 r2.length c2] 90))
    obtain ⟨q0, q1, _⟩ := box2 (blk_alloc (set2_blk g0 (.slice a1 r1.length c1) (.slice a2 r2.length c2)) (.cells #[.slice a1 r1.length c1, .slice a2 r2.length c2] 90))
    refine bodyPost_ret (v := .tuple #[.agg #[.slice a1 r1.length c1, .slice a2 r2.length c2], .int .i64 re]) (by simp [results, Try.results53, go_sem, q0, q1]) rfl ?_
    have hs1 := hw1.size
    have o1 := own_base (base' := w.heap.size + 1) own1 (by simp)
    have o2 := own_base (base' := w.heap.size + 1) own2 (by simp)
    exact ⟨a1, c1, a2, c2, rfl, own_base (own_below (ownsRow_setCell_below (ownsRow_setCell_below o1 (a := ⟨w.heap.size, 0, none⟩) (by show w.heap.size < _; omega) _) (a := ⟨w.heap.size, 1, none⟩) (by show w.heap.size < _; omega) _) (below1 _ _)) (by omega), own_base (own_below (ownsRow_setCell_below (ownsRow_setCell_below o2 (a := ⟨w.heap.size, 0, none⟩) (by show w.heap.size < _; omega) _) (a := ⟨w.heap.size, 1, none⟩) (by show w.heap.size < _; omega) _) (below1 _ _)) (by omega), (set2_below hw1 (Nat.le_refl _) _ _).alloc (set2_below hw1 (Nat.le_refl _) _ _).size _⟩
end Go.Proofs.Ytnbljcbfnplbaaa
