/-
  Layer 4: rows of entries, their copies, two lists that are the same.
-/
import Derived.Test.YtlejbhgginolgaaEntriesB
import Derived.Test.YtlejbhgginolgaaBoxes
import Derived.Test.YtlejbhgginolgaaSliceG
namespace Go.Proofs.Ytlejbhgginolgaa
open Go.RowKit
set_option linter.unusedVariables false
instance decCm : DecidableEq Cm := by unfold Cm; infer_instance
instance decEn : DecidableEq En := by unfold En; infer_instance
theorem elemE : Elem Try.prog 24 47 (.agg #[.int .i64 0, .int .i64 0, .int .i64 0, .int .i64 0, .int .i64 0, .int .i64 0, .int .i64 0]) 7 56 := ⟨Try.underlying24, by kernel_rfl, rfl, by omega⟩
/-- The front part of a row of the call's own. -/
theorem own_front {w : World} {base : Nat} {e : TypeId} {size n cap k : Nat} {A : Option Addr} {xs : List Value} (h : w.ownsRow base e size (.slice A n cap) n xs) (hk : k ≤ n) : w.ownsRow base e size (.slice A k cap) k (xs.take (k * size)) := by
  obtain ⟨hl, h2⟩ := h
  refine ⟨?_, ?_⟩
  · rw [List.length_take, hl]
    exact Nat.min_eq_left (Nat.mul_le_mul_right _ hk)
  · rcases h2 with ⟨hv, hx⟩ | ⟨g, c, cur, hv, hg, hh, hnc, hcm, hcs, hx⟩
    · injection hv with h1 h3 h4
      subst h1 h3 h4
      obtain rfl : k = 0 := by omega
      exact .inl ⟨rfl, by simp⟩
    · injection hv with h1 h3 h4
      subst h1 h4
      refine .inr ⟨g, cap, cur, rfl, hg, hh, Nat.le_trans hk hnc, hcm, hcs, ?_⟩
      rw [← hx, List.take_take, Nat.min_eq_left (Nat.mul_le_mul_right _ hk)]
theorem own_le' {w : World} {base : Nat} {e : TypeId} {size n cap : Nat} {A : Option Addr} {xs : List Value} (h : w.ownsRow base e size (.slice A n cap) n xs) : n ≤ cap := by
  obtain ⟨_, c, hv, hc⟩ := own_form h
  injection hv with _ _ h4
  omega
theorem own_max {w : World} {base : Nat} {e : TypeId} {size n cap : Nat} {A : Option Addr} {xs : List Value} (h : w.ownsRow base e size (.slice A n cap) n xs) : n ≤ maxLen := by
  rcases h.2 with ⟨hv, hx⟩ | ⟨g, c, cur, hv, hg, hh, hnc, hcm, _⟩
  · injection hv with _ h3 _
    unfold maxLen
    omega
  · exact Nat.le_trans hnc hcm
theorem own_nil' {w : World} {base : Nat} {e : TypeId} {size n cap : Nat} {A : Option Addr} {xs : List Value} (h : w.ownsRow base e size (.slice A n cap) n xs) : A = none → n = 0 := fun ha => by
  subst ha
  rcases h.2 with ⟨hv, hx⟩ | ⟨g, c, cur, hv, _⟩
  · injection hv
  · injection hv with h1
    cases h1
theorem LogIn.of_own {w : World} {base cap : Nat} {A : Option Addr} {es : List En} (h : w.ownsRow base 47 7 (.slice A es.length cap) es.length (ensV es)) : LogIn w A cap es := ⟨RowAt.of_own h, own_le' h, own_nil' h, own_max h⟩
set_option maxHeartbeats 1600000 in
theorem clone_any (a : Option Addr) (cap : Nat) (es : List En) (w : World) (hl : LogIn w a cap es) (hs : es.length ≤ 1000000) :
    Calls Try.prog 24 #[.slice a es.length cap] w (RetRow 47 7 es.length (ensV es) w) := by
  have q := fun (w : World) (a : Option Addr) (n c n' c' : Nat) => Lib.run_eql_slice_nil w 24 47 a n c n' c' Try.underlying24
  cases a with
  | none =>
    have h0 := hl.none_ rfl
    obtain rfl := List.eq_nil_of_length_eq_zero h0
    clear hl hs h0
    go_enter Try.func24, Try.ntmps24
    go_wp2
    go_ret
    exact ⟨none, 0, rfl, World.ownsRow_nil _ _ _ _, below0 _⟩
  | some p =>
    have HR := Lib.hid hl.row
    have hL := ensV_length es
    have h1 := ensV_one es
    have HL := Lib.hid hL
    clear hl hL
    go_enter Try.func24, Try.ntmps24
    go_wp2_with (at_builtin; refine wpList_append_row rfl (.tmp 5) (.tmp 6) rfl elemE w.heap.size _ 0 [] (by rfl) (World.ownsRow_made w #[] 0 (Nat.le_refl _) (Nat.zero_le _) (by simp)) (some p) es.length cap (ensV es) (by rfl) HL.out (HR.out.alloc _) h1 (by unfold maxLen; omega) (by omega) (by simp) (fun h => by cases h) ?_; intro a1 c1 w1 hown hg hat)
    simp only [Nat.zero_add, List.nil_append] at hown
    go_ret
    exact ⟨a1, c1, rfl, hown, Below.appended (below1 w _) (World.ownsRow_made (size := 7) w #[] 0 (Nat.le_refl _) (Nat.zero_le _) (by simp)) hg (by simp) (Nat.le_refl _)⟩
theorem take_eq_go {es fs : List En} {k : Nat} (h1 : k < es.length) (h2 : k < fs.length) (h : es.take k = fs.take k) (e : es[k]'h1 = fs[k]'h2) : es.take (k + 1) = fs.take (k + 1) := by
  rw [List.take_add_one, List.take_add_one, h, List.getElem?_eq_getElem h1, List.getElem?_eq_getElem h2, e]
set_option maxHeartbeats 1600000 in
theorem same_any (a : Option Addr) (cap : Nat) (es : List En) (a' : Option Addr) (cap' : Nat) (fs : List En) (w : World) (hr : RowAt w a (ensV es)) (hr' : RowAt w a' (ensV fs)) (hm : es.length ≤ maxLen) :
    Calls Try.prog 20 #[.slice a es.length cap, .slice a' fs.length cap'] w fun e w' => e = .returned (.bool (decide (es = fs))) ∧ Below w.heap.size w w' := by
  by_cases hl : es.length = fs.length
  rotate_left 1
  · have hl1 : ((es.length : Int) != (fs.length : Int)) = true := by simp; omega
    have hne : es ≠ fs := fun h => hl (by rw [h])
    rw [decide_eq_false hne]
    clear hr hr' hl hne
    go_enter Try.func20, Try.ntmps20
    go_wp2
    go_ret
    exact ⟨rfl, below0 _⟩
  have hl1 : ((es.length : Int) != (fs.length : Int)) = false := by simp; omega
  have HL := Lib.hid hl
  have HM := Lib.hid hm
  clear hm
  go_enter Try.func20, Try.ntmps20
  go_wp2
  clear hl1
  go_loopw [5] (fun i wr => ∃ k : Nat, k ≤ es.length ∧ i = .int .i64 k ∧ Hid (es.take k = fs.take k) ∧ Below w.heap.size w wr) (fun i _ => es.length - (intOf i).toNat)
  case atStart => exact ⟨0, by omega, rfl, rfl, below0 _⟩
  case round =>
    obtain ⟨k, hk, rfl, HE, hb⟩ := hrel
    by_cases hlt : k < es.length
    · have hlt' : k < fs.length := by omega
      obtain ⟨b, off, rfl, hblt, c0, c1, c2, c3, c4, c5, c6⟩ := entry_cells (hr.below hb) hlt
      obtain ⟨b', off', rfl, hblt', d0, d1, d2, d3, d4, d5, d6⟩ := entry_cells (hr'.below hb) hlt'
      have HG : Hid (es[k]'hlt = fs[k]'hlt' → es.take (k + 1) = fs.take (k + 1)) := take_eq_go hlt hlt' HE.out
      have HN : Hid (es = fs → es[k]'hlt = fs[k]'hlt') := fun h => by subst h; rfl
      generalize (es[k]'hlt) = x at c0 c1 c2 c3 c4 c5 c6 HG HN
      generalize (fs[k]'hlt') = y at d0 d1 d2 d3 d4 d5 d6 HG HN
      obtain ⟨x0, x1, x2, x3, x4, x5, x6⟩ := x
      obtain ⟨y0, y1, y2, y3, y4, y5, y6⟩ := y
      simp only at c0 c1 c2 c3 c4 c5 c6 d0 d1 d2 d3 d4 d5 d6
      have hk0 : (0 : Int) ≤ (k : Int) := by omega
      have hk1 : (k : Int) < (es.length : Int) := by omega
      have hk2 : (k : Int) < (fs.length : Int) := by omega
      have HW : Hid (wrap64 ((k : Int) + 1) = ((k + 1 : Nat) : Int)) := wrap_next hlt HM.out
      by_cases hxy : (x0, x1, x2, x3, x4, x5, x6) = (y0, y1, y2, y3, y4, y5, y6)
      · have HG2 := Lib.hid (HG.out hxy)
        simp only [Prod.mk.injEq] at hxy
        obtain ⟨rfl, rfl, rfl, rfl, rfl, rfl, rfl⟩ := hxy
        clear hl hlt' hr hr'
        go_wp2
        go_quiet (fail)
        go_wp2
        go_roundw
        case rel => exact ⟨k + 1, by omega, by rw [HW.out], HG2, Below.many hb _⟩
        case measure => exact measure_next HW.out hlt
      · have HNE : Hid (es ≠ fs) := fun h => hxy (HN.out h)
        have HXY := Lib.hid hxy
        clear hl hlt' hr hr' hxy HN HG
        by_cases h0 : x0 = y0
        rotate_left 1
        · have hq : (x0 == y0) = false := by simpa using h0
          clear h0
          go_wp2
          go_quiet (fail)
          go_wp2
          go_ret
          exact ⟨by rw [decide_eq_false HNE.out]; rfl, Below.many hb _⟩
        subst h0
        by_cases h1 : x1 = y1
        rotate_left 1
        · have hq : (x1 == y1) = false := by simpa using h1
          clear h1
          go_wp2
          go_quiet (fail)
          go_wp2
          go_ret
          exact ⟨by rw [decide_eq_false HNE.out]; rfl, Below.many hb _⟩
        subst h1
        by_cases h2 : x2 = y2
        rotate_left 1
        · have hq : (x2 == y2) = false := by simpa using h2
          clear h2
          go_wp2
          go_quiet (fail)
          go_wp2
          go_ret
          exact ⟨by rw [decide_eq_false HNE.out]; rfl, Below.many hb _⟩
        subst h2
        by_cases h3 : x3 = y3
        rotate_left 1
        · have hq : (x3 == y3) = false := by simpa using h3
          clear h3
          go_wp2
          go_quiet (fail)
          go_wp2
          go_ret
          exact ⟨by rw [decide_eq_false HNE.out]; rfl, Below.many hb _⟩
        subst h3
        by_cases h4 : x4 = y4
        rotate_left 1
        · have hq : (x4 == y4) = false := by simpa using h4
          clear h4
          go_wp2
          go_quiet (fail)
          go_wp2
          go_ret
          exact ⟨by rw [decide_eq_false HNE.out]; rfl, Below.many hb _⟩
        subst h4
        by_cases h5 : x5 = y5
        rotate_left 1
        · have hq : (x5 == y5) = false := by simpa using h5
          clear h5
          go_wp2
          go_quiet (fail)
          go_wp2
          go_ret
          exact ⟨by rw [decide_eq_false HNE.out]; rfl, Below.many hb _⟩
        subst h5
        by_cases h6 : x6 = y6
        rotate_left 1
        · have hq : (x6 == y6) = false := by simpa using h6
          clear h6
          go_wp2
          go_quiet (fail)
          go_wp2
          go_ret
          exact ⟨by rw [decide_eq_false HNE.out]; rfl, Below.many hb _⟩
        subst h6
        exact (HXY.out rfl).elim
    · have hek : k = es.length := by omega
      have hEQ : es = fs := by
        have := HE.out
        rwa [hek, List.take_length, hl, List.take_length] at this
      have HEQ := Lib.hid hEQ
      clear hek hEQ
      go_wp2
      go_ret
      exact ⟨by rw [decide_eq_true HEQ.out]; rfl, hb⟩
end Go.Proofs.Ytlejbhgginolgaa
