/-
  BV: several texts in one.
-/
import Derived.Test.YtnbljcbfnplbaaaBA
import Derived.Test.YtnbljcbfnplbaaaVaultMath
import Derived.Test.YtnbljcbfnplbaaaBT
import Derived.Deep.QuietTactic
import Derived.BigQuiet
import Derived.BigRegion
/-
  Behind an append the slice that was appended to is as it was.
-/
namespace Go.Proofs.Ytnbljcbfnplbaaa
open Go.RowKit
set_option linter.unusedVariables false
section
variable {P : Program} {w : World} {t e : TypeId} {z : Value} {size bytes : Nat}
/-- Behind an append the slice that was appended to is as it was. -/
theorem append_old (E : Elem P t e z size bytes) (ty : TypeId) (base : Nat)
    (v : Value) (n : Nat) (xs : List Value) (hown : w.ownsRow base e size v n xs) (a : Addr) (m c : Nat) (news : List Value) (hl : news.length = m * size) (hnews : ∀ j u, news[j]? = some u → w.cell? (a.add j) = some u) (h1 : ∀ u ∈ news, u.oneCell' = true)
    (h63 : n + m ≤ maxLen) (hbytes : (n + m) * bytes ≤ 140737488355328) (v' : Value) (w' : World) (hrun : (Builtin.append_ #[t, t] ty #[v, .slice (some a) m c]).run P w = .ok v' w') : w'.ownsRow base e size v n xs := by
  obtain ⟨i, hi, hz, hsize, hby⟩ := info_parts E.info
  have hsz := E.pos
  have ht := E.under
  subst hsize
  subst hby
  have hsmall : n + m ≤ 9223372036854775807 := by simp only [maxLen] at h63; omega
  rcases hown.2 with ⟨rfl, rfl⟩ | ⟨g, cap, cur, rfl, hbg, hg, hnc, hcm, hcs, htake⟩
  · have hx : xs = [] := List.eq_nil_of_length_eq_zero (by simpa using hown.1)
    subst hx
    exact World.ownsRow_nil _ _ _ _
  · by_cases hroom : n + m ≤ cap
    · have hfit : n * i.size + news.length ≤ cur.size := by rw [hl, hcs, ← Nat.add_mul]; exact Nat.mul_le_mul_right _ hroom
      have hr := run_append_room (P := P) w t ty e i ht hi g n cap cur hg a m c news hl hnews h1 hroom hfit
      rw [hr] at hrun
      injection hrun with _ hw
      subst hw
      refine ⟨hown.1, .inr ⟨g, cap, _, rfl, hbg, setRow_heap w g cur _ e _ hg, hnc, hcm, ?_, ?_⟩⟩
      · simp only [List.size_toArray, List.length_append, List.length_take, List.length_drop, Array.length_toList]
        omega
      · rw [htake]
        simp only [List.append_assoc]
        rw [← hown.1, List.take_left]
    · have holds : ∀ j u, xs[j]? = some u → w.cell? ((⟨g, 0, none⟩ : Addr).add j) = some u := hown.cells (g := g) rfl
      have hr := run_append_grow (P := P) w t ty e i z ht hi hz ⟨g, 0, none⟩ n cap xs hown.1 holds a m c news hl hnews (by omega) (by omega) (growslice_fits (by omega) hbytes)
      rw [hr] at hrun
      injection hrun with _ hw
      subst hw
      have hgl : g < w.heap.size := blk_lt hg
      refine ⟨hown.1, .inr ⟨g, cap, cur, rfl, hbg, ?_, hnc, hcm, hcs, htake⟩⟩
      rw [Below.heap_alloc w.drew _ g hgl]
      exact hg
theorem step_append_row2 {ops : Array Oper} {o : Oper} {a : Act} {K : Act → World → Prop} {Q : Exit → Act → World → Prop} {E0 : Prop} (hgd : o.guard = none) (s x : Operand)
    (ho : o.op = .call { callee := .builtin .append, args := #[s, x], argTypes := #[t, t] }) (E : Elem P t e z size bytes) (base : Nat)
    (v : Value) (n : Nat) (xs : List Value) (hs : a.eval s = v) (hown : w.ownsRow base e size v n xs) (A : Addr) (m c : Nat) (news : List Value) (hx : a.eval x = .slice (some A) m c) (hl : news.length = m * size) (hr : RowAt w (some A) news) (h1 : ∀ u ∈ news, u.oneCell' = true) (hm : 0 < m)
    (h63 : n + m ≤ maxLen) (hbytes : (n + m) * bytes ≤ 140737488355328) (hbase : base ≤ w.heap.size)
    (h : ∀ a' c' w', w'.ownsRow base e size (.slice a' (n + m) c') (n + m) (xs ++ news) → w.grownBy w' v.ownBlock → w'.ownsRow base e size v n xs → K (a.put o.dst (.slice a' (n + m) c')) w') :
    if Region.wanted o (yielded ops a.tmps) = true then Oper.wp P o a w K Q else E0 := by
  have hw : Region.wanted o (yielded ops a.tmps) = true := by simp [Region.wanted, hgd]
  rw [if_pos hw]
  obtain ⟨a', c', w', hrun, h2, h3, h4⟩ := run_append_row w E o.type base v n xs hown (some A) m c news hl hr h1 h63 hbytes hbase (fun h => by cases h)
  have hcells : ∀ j u, news[j]? = some u → w.cell? (A.add j) = some u := by
    rcases hr with rfl | ⟨b, off, ha, hlt, hc⟩
    · intro j u hj; simp at hj
    · cases ha
      exact RowAt.cells (.inr ⟨b, off, rfl, hlt, hc⟩)
  have hold := append_old E o.type base v n xs hown A m c news hl hcells h1 h63 hbytes _ _ hrun
  unfold Oper.wp execOp
  simp only [ho, resolve, invoke, builtin, Sem.run_bind, Sem.run_pure, Result.andThen_ok, List.map_toArray, List.map_cons, List.map_nil, hs, hx, hrun]
  exact h a' c' w' h2 h3 hold
end
end Go.Proofs.Ytnbljcbfnplbaaa

/-
  A state in a block; lists of a known length.
-/
namespace Go.Proofs.Ytnbljcbfnplbaaa
open Go.RowKit
set_option linter.unusedVariables false
/-- A state in a block, its entries a row of the call's own. -/
def StAt (w : World) (R base : Nat) (s : St) : Prop := ∃ A cap, w.heap[R]? = some (.cells #[.int .i64 s.1, .int .i64 s.2.1, .slice A s.2.2.length cap] 61) ∧ w.ownsRow base 41 7 (.slice A s.2.2.length cap) s.2.2.length (ensV s.2.2)
def RetStep (R base F : Nat) (s : St) (o : Option St) (w : World) (en : Ending) (w' : World) : Prop := en = .returned (.bool o.isSome) ∧ StAt w' R base (o.getD s) ∧ Below F w w'
theorem list_two {α : Type} {l : List α} (h : l.length = 2) : ∃ a b, l = [a, b] := by
  match l, h with
  | [a, b], _ => exact ⟨a, b, rfl⟩
theorem list_one {α : Type} {l : List α} (h : l.length = 1) : ∃ a, l = [a] := by
  match l, h with
  | [a], _ => exact ⟨a, rfl⟩
theorem list_eight {α : Type} {l : List α} (h : l.length = 8) : ∃ a b c d e f g i, l = [a, b, c, d, e, f, g, i] := by
  match l, h with
  | [a, b, c, d, e, f, g, i], _ => exact ⟨a, b, c, d, e, f, g, i, rfl⟩
end Go.Proofs.Ytnbljcbfnplbaaa

/-
  A step leaves entries.
-/
namespace Go.Proofs.Ytnbljcbfnplbaaa
open Go.RowKit
set_option linter.unusedVariables false
set_option maxRecDepth 100000 in
set_option maxHeartbeats 12800000 in
theorem vstep_left (R base F : Nat) (s : St) (x0 : Int) (d : Option Addr) (cd : Nat) (body : List UInt8) (w : World) (hs : StAt w R base s) (hRb : R < base) (hFR : F ≤ R) (hbs : base ≤ w.heap.size) (hok : StOk s)
    (hd : CellsB w d body) (hcap : body.length ≤ cd) (hz : d = none → body.length = 0) (hlm : body.length ≤ 1000000)
    (hun : unpackP body = (0, [x0], [])) (hx0 : x0 ≤ (s.2.2.length : Int)) :
    Calls Try.prog 48 #[.pointer (some ⟨R, 0, none⟩), .agg #[.int .i64 3, .slice d body.length cd]] w (RetStep R base F s (some (s.1, s.2.1, s.2.2.take x0.toNat)) w) := by
  have hnn : 0 ≤ x0 := ((packE_zero (unpackP_back hun).1).2.2 x0 (by simp)).1
  have HU : Hid (∀ W, Below w.heap.size w W → Calls Try.prog 61 #[.slice d body.length cd] W (RetUn (unpackP body) W)) := fun W h => unpack_any d cd body W (hd.below h) hcap hz hlm
  have hF : F ≤ w.heap.size := by omega
  obtain ⟨t0, v0, es⟩ := s
  obtain ⟨A, cap, g, hown⟩ := hs
  simp only at g hown hx0
  have h64 := (mayL_true hok.2).2.2.2.2.2.1
  simp only at h64
  have h64' : (es.length : Int) ≤ 64 := by omega
  simp only
  rw [hun] at HU
  clear hd hcap hz hlm hun
  obtain ⟨j, rfl⟩ : ∃ j : Nat, x0 = (j : Int) := ⟨x0.toNat, by omega⟩
  have hj : j ≤ es.length := by omega
  rw [Int.toNat_natCast]
  go_enter Try.func48, Try.ntmps48
  go_wp2_with (go_at_call 61; refine (HU.out _ (below1 _ _)).mono ?_; rintro en w1 ⟨a1, c1, a2, c2, rfl, oi, ob, hb1⟩; have hb1' : Below w.heap.size w w1 := alloc_below hb1; have hal := below1 w1 (.cells #[.slice a1 1 c1, .slice a2 0 c2] 90); have hbw := hb1'.trans (hal.mono hb1'.size); have gR := blk_keep hbw g; have ownR := own_below hown hbw; have gB := blk_alloc (blk_keep hb1 (blk_new w (.cells #[.int .i64 3, .slice d body.length cd] 77))) (.cells #[.slice a1 1 c1, .slice a2 0 c2] 90); have gX := blk_new w1 (.cells #[.slice a1 1 c1, .slice a2 0 c2] 90); have hci := RowAt.below (RowAt.of_own oi) hal; obtain ⟨rc0, rc1, rc2, rf0, rf1, rf2, rlt⟩ := box3 gR; obtain ⟨bc0, bc1, bf0, bf1, blt⟩ := box2 gB; obtain ⟨xc0, xc1, xf0, xf1, xlt⟩ := box2 gX; have hbF := hbw.mono hF)
  obtain ⟨nb, noff, rfl, hnlt, nc0⟩ := CellsI.at hci (k := 0) (by simp)
  rw [Nat.add_zero] at nc0
  simp only [List.getElem_cons_zero] at nc0
  go_quiet (fail)
  go_wp2
  go_quiet (fail)
  go_wp2
  rename_i mq
  have gRW : (((w1.alloc (.cells #[.slice (some ⟨nb, noff, none⟩) ([(j : Int)] : List Int).length c1, .slice a2 ([] : List UInt8).length c2] 90)).drewN mq).drewN nq).heap[R]? = some (.cells #[.int .i64 t0, .int .i64 v0, .slice A es.length cap] 61) := gR
  have ownW : (((w1.alloc (.cells #[.slice (some ⟨nb, noff, none⟩) ([(j : Int)] : List Int).length c1, .slice a2 ([] : List UInt8).length c2] 90)).drewN mq).drewN nq).ownsRow base 41 7 (.slice A es.length cap) es.length (ensV es) := ownR
  have nk : (((w1.alloc (.cells #[.slice (some ⟨nb, noff, none⟩) ([(j : Int)] : List Int).length c1, .slice a2 ([] : List UInt8).length c2] 90)).drewN mq).drewN nq).cell? ⟨nb, noff, none⟩ = some (.int .i64 (j : Int)) := nc0
  have hWF : Below F w (((w1.alloc (.cells #[.slice (some ⟨nb, noff, none⟩) ([(j : Int)] : List Int).length c1, .slice a2 ([] : List UInt8).length c2] 90)).drewN mq).drewN nq) := Below.many (Below.many hbF mq) nq
  clear nc0 gR ownR hbF gX gB hci rc0 rc1 rc2 rf0 rf1 rf2 rlt bc0 bc1 bf0 bf1 blt xc0 xc1 xf0 xf1 xlt hal hbw
  generalize (((w1.alloc (.cells #[.slice (some ⟨nb, noff, none⟩) ([(j : Int)] : List Int).length c1, .slice a2 ([] : List UInt8).length c2] 90)).drewN mq).drewN nq) = W at *
  obtain ⟨rc0, rc1, rc2, rf0, rf1, rf2, rlt⟩ := box3 gRW
  have hsl : (Instr.slice 24 (.slice A es.length cap) none (some (.int .i64 (j : Int))) none).run Try.prog W = .ok (.slice A j cap) W := slice_toS elemE A es.length cap j (Nat.le_trans hj (own_le' ownW)) W
  have hlen : (es.take j).length = j := by rw [List.length_take]; omega
  have hjc : j ≤ cap := Nat.le_trans hj (own_le' ownW)
  go_region
  go_wp2
  go_ret
  refine ⟨rfl, ⟨A, cap, ?_, ?_⟩, (hWF.setCell (p := ⟨R, 2, none⟩) hFR _).drew⟩
  · simp only [Option.getD_some, hlen]
    exact blk_set (i := 2) gRW (.slice A j cap)
  · simp only [Option.getD_some, hlen]
    rw [← ensV_take]
    exact ownsRow_setCell_below (own_front ownW hj) (a := ⟨R, 2, none⟩) hRb _
end Go.Proofs.Ytnbljcbfnplbaaa
