/-
  The document's records, and what is common.
-/
import Derived.Test.YtnbljcbfnplbaaaBK
import Derived.Test.YtnbljcbfnplbaaaBD
import Derived.Test.YtnbljcbfnplbaaaBF
import Derived.Test.YtnbljcbfnplbaaaBE
namespace Go.Proofs.Ytnbljcbfnplbaaa
open Go.RowKit
set_option linter.unusedVariables false
/-- A record's bytes as the document puts them. -/
def recZ (k : Int) (ns : List Int) : List UInt8 := if packE (ns, []) = 0 then putB (k, packB (ns, [])) else []
def recZok (k : Int) (ns : List Int) : Bool := decide (packE (ns, []) = 0) && decide (putE (k, packB (ns, [])) = 0)
set_option maxHeartbeats 3200000 in
theorem refRecord_any (k : Int) (a : Option Addr) (c : Nat) (ns : List Int) (w : World) (hi : IntsIn w a c ns) :
    Calls Try.prog 35 #[.int .i64 k, .slice a ns.length c] w (RetRowOk 5 1 (recZ k ns).length ((recZ k ns).map byteV) (recZok k ns) w) := by
  have HP : Hid (Calls Try.prog 50 #[.agg #[.slice a ns.length c, .slice none 0 0]] w (RetRowE 5 1 (packB (ns, [])).length ((packB (ns, [])).map byteV) (packE (ns, [])) w)) := frefPack_any a c ns none 0 [] w hi .nil (fun _ => rfl)
  have HQ : Hid (∀ W a2 c2, W.ownsRow w.heap.size 5 1 (.slice a2 (packB (ns, [])).length c2) (packB (ns, [])).length ((packB (ns, [])).map byteV) → Calls Try.prog 51 #[.agg #[.int .i64 k, .slice a2 (packB (ns, [])).length c2]] W (RetRowE 5 1 (putB (k, packB (ns, []))).length ((putB (k, packB (ns, []))).map byteV) (putE (k, packB (ns, []))) W)) := fun W a2 c2 h => refPut_any k a2 c2 (packB (ns, [])) W (RowAt.of_own h) (own_none h)
  clear hi
  unfold recZ recZok
  generalize putB (k, packB (ns, [])) = Z at HQ ⊢
  generalize putE (k, packB (ns, [])) = pe at HQ ⊢
  generalize packB (ns, []) = P at HP HQ
  by_cases hq : packE (ns, []) = 0
  · rw [if_pos hq, decide_eq_true hq]
    rw [hq] at HP
    clear hq
    go_enter Try.func35, Try.ntmps35
    go_wp2_with (first
      | (go_at_call 50; refine HP.out.mono ?_; rintro en w1 ⟨a1, c1, rfl, own1, hb1⟩)
      | (go_at_call 51; refine (HQ.out _ a1 c1 own1).mono ?_; rintro en w2 ⟨a2, c2, rfl, own2, hb2⟩))
    go_ret2
    refine ⟨a2, c2, ?_, own_base own2 hb1.size, hb1.trans (hb2.mono hb1.size)⟩
    rw [Bool.true_and, show decide (pe = 0) = (pe == 0) by rw [Bool.eq_iff_iff]; simp]
    rfl
  · rw [if_neg hq, decide_eq_false hq]
    have hq1 : (packE (ns, []) != 0) = true := by simpa using hq
    clear hq
    generalize packE (ns, []) = qe at HP hq1
    go_enter Try.func35, Try.ntmps35
    go_wp2_with (go_at_call 50; refine HP.out.mono ?_; rintro en w1 ⟨a1, c1, rfl, own1, hb1⟩)
    go_ret2
    exact ⟨none, 0, rfl, World.ownsRow_nil _ _ _ _, hb1⟩
set_option maxRecDepth 100000 in
set_option maxHeartbeats 12800000 in
theorem refCommon_any (a : Option Addr) (c : Nat) (es : List En) (a' : Option Addr) (c' : Nat) (fs : List En) (w : World) (hl : LogIn w a c es) (hm : LogIn w a' c' fs) (he : es.length ≤ 1000000) (hf : fs.length ≤ 1000000) :
    Calls Try.prog 36 #[.slice a es.length c, .slice a' fs.length c'] w fun e w' => e = .returned (.int .i64 (commonN es fs : Nat)) ∧ Below w.heap.size w w' := by
  obtain ⟨P, hP⟩ : ∃ P, P = commonN es fs := ⟨_, rfl⟩
  rw [← hP]
  have HP := Lib.hid hP
  have HL := Lib.hid hl
  have HM := Lib.hid hm
  clear hP hl hm
  go_enter Try.func36, Try.ntmps36
  go_wp2
  go_loopw [5] (fun i wr => ∃ k : Nat, k ≤ es.length ∧ k ≤ fs.length ∧ i = .int .i64 k ∧ Hid (es.take k = fs.take k) ∧ Below w.heap.size w wr) (fun i _ => es.length - (intOf i).toNat)
  case atStart => exact ⟨0, by omega, by omega, rfl, rfl, below0 _⟩
  case round =>
    obtain ⟨k, hk1, hk2, rfl, HT, hbq⟩ := hrel
    have hk0 : (0 : Int) ≤ (k : Int) := by omega
    have HKP : Hid ((k < es.length → k < fs.length → es[k]? ≠ fs[k]?) → k = P) := fun h => (HP.out.trans (commonN_eq hk1 hk2 HT.out h)).symm
    have HW := wrap_id (x := (k : Int) + 1) (by omega) (by omega)
    by_cases hlt1 : k < es.length
    · by_cases hlt2 : k < fs.length
      · obtain ⟨lb, loff, rfl, hlbl, f0, f1, f2, f3, f4, f5, f6⟩ := entry_cells (HL.out.row.below hbq) hlt1
        obtain ⟨mb, moff, rfl, hmbl, c0, c1, c2, c3, c4, c5, c6⟩ := entry_cells (HM.out.row.below hbq) hlt2
        have HG : Hid (es[k]'hlt1 = fs[k]'hlt2 → es.take (k + 1) = fs.take (k + 1)) := take_eq_go hlt1 hlt2 HT.out
        have HN : Hid (es[k]'hlt1 ≠ fs[k]'hlt2 → k = P) := fun h => HKP.out (fun _ _ => by rw [List.getElem?_eq_getElem hlt1, List.getElem?_eq_getElem hlt2]; exact fun e => h (Option.some.inj e))
        generalize (es[k]'hlt1) = y at f0 f1 f2 f3 f4 f5 f6 HG HN
        generalize (fs[k]'hlt2) = x at c0 c1 c2 c3 c4 c5 c6 HG HN
        obtain ⟨x0, x1, x2, x3, x4, x5, x6⟩ := x
        obtain ⟨y0, y1, y2, y3, y4, y5, y6⟩ := y
        simp only at c0 c1 c2 c3 c4 c5 c6 f0 f1 f2 f3 f4 f5 f6
        have hkl1 : (k : Int) < (es.length : Int) := by omega
        have hkl2 : (k : Int) < (fs.length : Int) := by omega
        by_cases hxy : (y0, y1, y2, y3, y4, y5, y6) = (x0, x1, x2, x3, x4, x5, x6)
        · have HG2 := Lib.hid (HG.out hxy)
          simp only [Prod.mk.injEq] at hxy
          obtain ⟨rfl, rfl, rfl, rfl, rfl, rfl, rfl⟩ := hxy
          clear HN HG HKP
          go_wp2
          go_quiet (fail)
          go_wp2
          exact ⟨⟨k + 1, by omega, by omega, by simp, HG2, Below.many hbq _⟩, by simp [intOf]; omega⟩
        have HNE := Lib.hid (HN.out hxy)
        have HXY := Lib.hid hxy
        clear hxy HN HG HKP
        by_cases h0q : y0 = x0
        rotate_left 1
        · have hq : (y0 == x0) = false := by simpa using h0q
          clear h0q
          go_wp2
          go_quiet (fail)
          go_wp2
          go_ret
          exact ⟨by rw [HNE.out]; rfl, Below.many hbq _⟩
        subst h0q
        by_cases h1q : y1 = x1
        rotate_left 1
        · have hq : (y1 == x1) = false := by simpa using h1q
          clear h1q
          go_wp2
          go_quiet (fail)
          go_wp2
          go_ret
          exact ⟨by rw [HNE.out]; rfl, Below.many hbq _⟩
        subst h1q
        by_cases h2q : y2 = x2
        rotate_left 1
        · have hq : (y2 == x2) = false := by simpa using h2q
          clear h2q
          go_wp2
          go_quiet (fail)
          go_wp2
          go_ret
          exact ⟨by rw [HNE.out]; rfl, Below.many hbq _⟩
        subst h2q
        by_cases h3q : y3 = x3
        rotate_left 1
        · have hq : (y3 == x3) = false := by simpa using h3q
          clear h3q
          go_wp2
          go_quiet (fail)
          go_wp2
          go_ret
          exact ⟨by rw [HNE.out]; rfl, Below.many hbq _⟩
        subst h3q
        by_cases h4q : y4 = x4
        rotate_left 1
        · have hq : (y4 == x4) = false := by simpa using h4q
          clear h4q
          go_wp2
          go_quiet (fail)
          go_wp2
          go_ret
          exact ⟨by rw [HNE.out]; rfl, Below.many hbq _⟩
        subst h4q
        by_cases h5q : y5 = x5
        rotate_left 1
        · have hq : (y5 == x5) = false := by simpa using h5q
          clear h5q
          go_wp2
          go_quiet (fail)
          go_wp2
          go_ret
          exact ⟨by rw [HNE.out]; rfl, Below.many hbq _⟩
        subst h5q
        by_cases h6q : y6 = x6
        rotate_left 1
        · have hq : (y6 == x6) = false := by simpa using h6q
          clear h6q
          go_wp2
          go_quiet (fail)
          go_wp2
          go_ret
          exact ⟨by rw [HNE.out]; rfl, Below.many hbq _⟩
        subst h6q
        exact (HXY.out rfl).elim
      · have HNE := Lib.hid (HKP.out (fun _ h => absurd h hlt2))
        have hkl1 : (k : Int) < (es.length : Int) := by omega
        have hkl2 : ¬ (k : Int) < (fs.length : Int) := by omega
        go_wp2
        go_quiet (fail)
        go_wp2
        go_ret
        exact ⟨by rw [HNE.out]; rfl, Below.many hbq _⟩
    · have HNE := Lib.hid (HKP.out (fun h _ => absurd h hlt1))
      have hkl1 : ¬ (k : Int) < (es.length : Int) := by omega
      go_wp2
      go_quiet (fail)
      go_wp2
      go_ret
      exact ⟨by rw [HNE.out]; rfl, Below.many hbq _⟩
end Go.Proofs.Ytnbljcbfnplbaaa
