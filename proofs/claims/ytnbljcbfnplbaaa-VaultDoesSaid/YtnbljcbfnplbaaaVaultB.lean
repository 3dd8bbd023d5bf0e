/-
  A step takes an entry in.
-/
import Derived.Test.YtnbljcbfnplbaaaBV
import Derived.Deep.QuietTactic
import Derived.BigQuiet
namespace Go.Proofs.Ytnbljcbfnplbaaa
open Go.RowKit
set_option linter.unusedVariables false
set_option maxRecDepth 100000 in
set_option maxHeartbeats 12800000 in
theorem vstep_ent (R base F : Nat) (s : St) (x0 x1 x2 x3 x4 x5 x6 x7 : Int) (d : Option Addr) (cd : Nat) (body : List UInt8) (w : World) (hs : StAt w R base s) (hRb : R < base) (hFR : F ≤ R) (hbs : base ≤ w.heap.size) (hok : StOk s)
    (hd : CellsB w d body) (hcap : body.length ≤ cd) (hz : d = none → body.length = 0) (hlm : body.length ≤ 1000000)
    (hun : unpackP body = (0, [x0, x1, x2, x3, x4, x5, x6, x7], [])) (hx0 : x0 = (s.2.2.length : Int) + 1) :
    Calls Try.prog 48 #[.pointer (some ⟨R, 0, none⟩), .agg #[.int .i64 2, .slice d body.length cd]] w (RetStep R base F s (if mayL 0 0 (s.2.2 ++ [((x1, x2, x3, x4, x5, x6, x7) : En)]) = true then some (s.1, s.2.1, s.2.2 ++ [((x1, x2, x3, x4, x5, x6, x7) : En)]) else none) w) := by
  have HU : Hid (∀ W, Below w.heap.size w W → Calls Try.prog 61 #[.slice d body.length cd] W (RetUn (unpackP body) W)) := fun W h => unpack_any d cd body W (hd.below h) hcap hz hlm
  have hF : F ≤ w.heap.size := by omega
  obtain ⟨t0, v0, es⟩ := s
  obtain ⟨A, cap, g, hown⟩ := hs
  simp only at g hown hx0
  have h64 := (mayL_true hok.2).2.2.2.2.2.1
  simp only at h64
  have h64' : (es.length : Int) ≤ 64 := by omega
  simp only
  rw [hun] at HU
  clear hd hcap hz hlm hun
  have hx0' : (x0 == (es.length : Int) + 1) = true := by rw [hx0]; simp
  clear hx0
  have hel : (es ++ [((x1, x2, x3, x4, x5, x6, x7) : En)]).length = es.length + 1 := by simp
  have HEL := Lib.hid hel
  have HM : Hid (∀ W a c, LogIn W a c (es ++ [((x1, x2, x3, x4, x5, x6, x7) : En)]) → Calls Try.prog 24 #[.agg #[.int .i64 0, .int .i64 0, .slice a (es.length + 1) c]] W fun e w' => e = .returned (.bool (mayL 0 0 (es ++ [((x1, x2, x3, x4, x5, x6, x7) : En)]))) ∧ Below W.heap.size W w') := fun W a c h => by
    have := may_any 0 0 a c (es ++ [((x1, x2, x3, x4, x5, x6, x7) : En)]) W h
    rwa [hel] at this
  have HIN : Hid (∀ (W : World) a c, W.ownsRow base 41 7 (.slice a (es.length + 1) c) (es.length + 1) (ensV es ++ ensV [((x1, x2, x3, x4, x5, x6, x7) : En)]) → LogIn W a c (es ++ [((x1, x2, x3, x4, x5, x6, x7) : En)])) := fun W a c h => by
    rw [← ensV_append, ← hel] at h
    exact LogIn.of_own h
  have HAP := Lib.hid (ensV_append es [((x1, x2, x3, x4, x5, x6, x7) : En)])
  clear hel
  have hwr := wrap_id (x := (es.length : Int) + 1) (by omega) (by omega)
  cases hmv : mayL 0 0 (es ++ [((x1, x2, x3, x4, x5, x6, x7) : En)]) with
  | false =>
    rw [hmv] at HM
    rw [if_neg (by decide)]
    clear hmv
    go_enter Try.func48, Try.ntmps48
    go_wp2_with (go_at_call 61; refine (HU.out _ (below1 _ _)).mono ?_; rintro en w1 ⟨a1, c1, a2, c2, rfl, oi, ob, hb1⟩; have hb1' : Below w.heap.size w w1 := alloc_below hb1; have hal := below1 w1 (.cells #[.slice a1 8 c1, .slice a2 0 c2] 90); have hbw := hb1'.trans (hal.mono hb1'.size); have gR := blk_keep hbw g; have ownR := own_below hown hbw; have gB := blk_alloc (blk_keep hb1 (blk_new w (.cells #[.int .i64 2, .slice d body.length cd] 77))) (.cells #[.slice a1 8 c1, .slice a2 0 c2] 90); have gX := blk_new w1 (.cells #[.slice a1 8 c1, .slice a2 0 c2] 90); have hci := RowAt.below (RowAt.of_own oi) hal; obtain ⟨rc0, rc1, rc2, rf0, rf1, rf2, rlt⟩ := box3 gR; obtain ⟨bc0, bc1, bf0, bf1, blt⟩ := box2 gB; obtain ⟨xc0, xc1, xf0, xf1, xlt⟩ := box2 gX; have hbF := hbw.mono hF)
    obtain ⟨nb, noff, ha0, hnlt, nc0⟩ := CellsI.at hci (k := 0) (by simp)
    subst ha0
    obtain ⟨_, _, ha1, _, nc1⟩ := CellsI.at hci (k := 1) (by simp)
    cases ha1
    obtain ⟨_, _, ha1, _, nc2⟩ := CellsI.at hci (k := 2) (by simp)
    cases ha1
    obtain ⟨_, _, ha1, _, nc3⟩ := CellsI.at hci (k := 3) (by simp)
    cases ha1
    obtain ⟨_, _, ha1, _, nc4⟩ := CellsI.at hci (k := 4) (by simp)
    cases ha1
    obtain ⟨_, _, ha1, _, nc5⟩ := CellsI.at hci (k := 5) (by simp)
    cases ha1
    obtain ⟨_, _, ha1, _, nc6⟩ := CellsI.at hci (k := 6) (by simp)
    cases ha1
    obtain ⟨_, _, ha1, _, nc7⟩ := CellsI.at hci (k := 7) (by simp)
    cases ha1
    rw [Nat.add_zero] at nc0
    simp only [List.getElem_cons_zero, List.getElem_cons_succ] at nc0 nc1 nc2 nc3 nc4 nc5 nc6 nc7
    have hnb : w.heap.size ≤ nb := Nat.le_trans (below1 w (.cells #[.int .i64 2, .slice d body.length cd] 77)).size (own_from oi (by simp) nb noff rfl)
    go_quiet (fail)
    clear hwr
    go_wp2
    have nk1 : ((w1.alloc (.cells #[.slice (some ⟨nb, noff, none⟩) ([x0, x1, x2, x3, x4, x5, x6, x7] : List Int).length c1, .slice a2 ([] : List UInt8).length c2] 90)).drewN nq).cell? ⟨nb, noff + 1, none⟩ = some (.int .i64 x1) := nc1
    have nk2 : ((w1.alloc (.cells #[.slice (some ⟨nb, noff, none⟩) ([x0, x1, x2, x3, x4, x5, x6, x7] : List Int).length c1, .slice a2 ([] : List UInt8).length c2] 90)).drewN nq).cell? ⟨nb, noff + 2, none⟩ = some (.int .i64 x2) := nc2
    have nk3 : ((w1.alloc (.cells #[.slice (some ⟨nb, noff, none⟩) ([x0, x1, x2, x3, x4, x5, x6, x7] : List Int).length c1, .slice a2 ([] : List UInt8).length c2] 90)).drewN nq).cell? ⟨nb, noff + 3, none⟩ = some (.int .i64 x3) := nc3
    have nk4 : ((w1.alloc (.cells #[.slice (some ⟨nb, noff, none⟩) ([x0, x1, x2, x3, x4, x5, x6, x7] : List Int).length c1, .slice a2 ([] : List UInt8).length c2] 90)).drewN nq).cell? ⟨nb, noff + 4, none⟩ = some (.int .i64 x4) := nc4
    have nk5 : ((w1.alloc (.cells #[.slice (some ⟨nb, noff, none⟩) ([x0, x1, x2, x3, x4, x5, x6, x7] : List Int).length c1, .slice a2 ([] : List UInt8).length c2] 90)).drewN nq).cell? ⟨nb, noff + 5, none⟩ = some (.int .i64 x5) := nc5
    have nk6 : ((w1.alloc (.cells #[.slice (some ⟨nb, noff, none⟩) ([x0, x1, x2, x3, x4, x5, x6, x7] : List Int).length c1, .slice a2 ([] : List UInt8).length c2] 90)).drewN nq).cell? ⟨nb, noff + 6, none⟩ = some (.int .i64 x6) := nc6
    have nk7 : ((w1.alloc (.cells #[.slice (some ⟨nb, noff, none⟩) ([x0, x1, x2, x3, x4, x5, x6, x7] : List Int).length c1, .slice a2 ([] : List UInt8).length c2] 90)).drewN nq).cell? ⟨nb, noff + 7, none⟩ = some (.int .i64 x7) := nc7
    have gRW : ((w1.alloc (.cells #[.slice (some ⟨nb, noff, none⟩) ([x0, x1, x2, x3, x4, x5, x6, x7] : List Int).length c1, .slice a2 ([] : List UInt8).length c2] 90)).drewN nq).heap[R]? = some (.cells #[.int .i64 t0, .int .i64 v0, .slice A es.length cap] 61) := gR
    have ownW : ((w1.alloc (.cells #[.slice (some ⟨nb, noff, none⟩) ([x0, x1, x2, x3, x4, x5, x6, x7] : List Int).length c1, .slice a2 ([] : List UInt8).length c2] 90)).drewN nq).ownsRow base 41 7 (.slice A es.length cap) es.length (ensV es) := ownR
    have hWF : Below F w ((w1.alloc (.cells #[.slice (some ⟨nb, noff, none⟩) ([x0, x1, x2, x3, x4, x5, x6, x7] : List Int).length c1, .slice a2 ([] : List UInt8).length c2] 90)).drewN nq) := Below.many hbF nq
    have hwW : Below w.heap.size w ((w1.alloc (.cells #[.slice (some ⟨nb, noff, none⟩) ([x0, x1, x2, x3, x4, x5, x6, x7] : List Int).length c1, .slice a2 ([] : List UInt8).length c2] 90)).drewN nq) := Below.many hbw nq
    have hnl : nb < ((w1.alloc (.cells #[.slice (some ⟨nb, noff, none⟩) ([x0, x1, x2, x3, x4, x5, x6, x7] : List Int).length c1, .slice a2 ([] : List UInt8).length c2] 90)).drewN nq).heap.size := hnlt
    have hbW : base ≤ ((w1.alloc (.cells #[.slice (some ⟨nb, noff, none⟩) ([x0, x1, x2, x3, x4, x5, x6, x7] : List Int).length c1, .slice a2 ([] : List UInt8).length c2] 90)).drewN nq).heap.size := Nat.le_trans hbs hbw.size
    clear nc0 nc1 nc2 nc3 nc4 nc5 nc6 nc7 gR ownR hbF gX gB hci rc0 rc1 rc2 rf0 rf1 rf2 rlt bc0 bc1 bf0 bf1 blt xc0 xc1 xf0 xf1 xlt hal hbw
    generalize ((w1.alloc (.cells #[.slice (some ⟨nb, noff, none⟩) ([x0, x1, x2, x3, x4, x5, x6, x7] : List Int).length c1, .slice a2 ([] : List UInt8).length c2] 90)).drewN nq) = W at *
    obtain ⟨rc0, rc1, rc2, rf0, rf1, rf2, rlt⟩ := box3 gRW
    have hRow : RowAt (W.drew.alloc (.cells #[.int .i64 x1, .int .i64 x2, .int .i64 x3, .int .i64 x4, .int .i64 x5, .int .i64 x6, .int .i64 x7] 41)) (some ⟨W.heap.size, 0, none⟩) (ensV [((x1, x2, x3, x4, x5, x6, x7) : En)]) := RowAt.new W.drew #[.int .i64 x1, .int .i64 x2, .int .i64 x3, .int .i64 x4, .int .i64 x5, .int .i64 x6, .int .i64 x7] 41
    have hAB : Below W.heap.size W (W.drew.alloc (.cells #[.int .i64 x1, .int .i64 x2, .int .i64 x3, .int .i64 x4, .int .i64 x5, .int .i64 x6, .int .i64 x7] 41)) := (below0 W).drew.alloc (below0 W).drew.size (.cells #[.int .i64 x1, .int .i64 x2, .int .i64 x3, .int .i64 x4, .int .i64 x5, .int .i64 x6, .int .i64 x7] 41)
    obtain ⟨jc0, jc1, jc2, _, _, _, _⟩ := box3 (blk_keep hAB gRW)
    have hnA : (Value.slice A es.length cap).ownBlock ≠ some nb := fun e => by have := (hown.lt _ e).2; omega
    have hAs := hAB.size
    go_region_held3 (fun Z => Z.cell? ⟨R, 2, none⟩ = some (.slice A es.length cap) ∧ Z.cell? ⟨nb, noff + 1, none⟩ = some (.int .i64 x1) ∧ Z.cell? ⟨nb, noff + 2, none⟩ = some (.int .i64 x2) ∧ Z.cell? ⟨nb, noff + 3, none⟩ = some (.int .i64 x3) ∧ Z.cell? ⟨nb, noff + 4, none⟩ = some (.int .i64 x4) ∧ Z.cell? ⟨nb, noff + 5, none⟩ = some (.int .i64 x5) ∧ Z.cell? ⟨nb, noff + 6, none⟩ = some (.int .i64 x6) ∧ Z.cell? ⟨nb, noff + 7, none⟩ = some (.int .i64 x7)) (first | exact ⟨rc2, nk1, nk2, nk3, nk4, nk5, nk6, nk7⟩ | exact ⟨kc2, nl1, nl2, nl3, nl4, nl5, nl6, nl7⟩ | go_keep) ((refine step_append_row2 rfl (.tmp 73) (.tmp 97) rfl elemE base (.slice A es.length cap) es.length (ensV es) (by rfl) (own_below ownW hAB) ⟨W.heap.size, 0, none⟩ 1 1 (ensV [((x1, x2, x3, x4, x5, x6, x7) : En)]) (by rfl) (ensV_length _) hRow (ensV_one _) (by decide) (by unfold maxLen; omega) (by omega) (Nat.le_trans hbW hAs) ?_; intro a3 c3 w3 hown3 hg3 own3; have hne : ∀ j, j < base → (Value.slice A es.length cap).ownBlock ≠ some j := (fun j hj e => by have := (ownW.lt _ e).1; omega); have gR3 := blk_grown hg3 (blk_keep hAB gRW) (hne _ hRb); have hw3 : Below F w w3 := Below.appended (hWF.trans (hAB.mono (Nat.le_trans hF (hwW.size)))) (own_below ownW hAB) hg3 (Nat.le_trans hF (Nat.le_trans hwW.size hAs)) (by omega); have nl1 : w3.cell? ⟨nb, noff + 1, none⟩ = some (.int .i64 x1) := (World.grownBy.cell_far hg3 ⟨nb, noff + 1, none⟩ (Nat.lt_of_lt_of_le hnl hAs) hnA.symm).trans (((bcell hAB).1 _ _ hnl).trans nk1); have nl2 : w3.cell? ⟨nb, noff + 2, none⟩ = some (.int .i64 x2) := (World.grownBy.cell_far hg3 ⟨nb, noff + 2, none⟩ (Nat.lt_of_lt_of_le hnl hAs) hnA.symm).trans (((bcell hAB).1 _ _ hnl).trans nk2); have nl3 : w3.cell? ⟨nb, noff + 3, none⟩ = some (.int .i64 x3) := (World.grownBy.cell_far hg3 ⟨nb, noff + 3, none⟩ (Nat.lt_of_lt_of_le hnl hAs) hnA.symm).trans (((bcell hAB).1 _ _ hnl).trans nk3); have nl4 : w3.cell? ⟨nb, noff + 4, none⟩ = some (.int .i64 x4) := (World.grownBy.cell_far hg3 ⟨nb, noff + 4, none⟩ (Nat.lt_of_lt_of_le hnl hAs) hnA.symm).trans (((bcell hAB).1 _ _ hnl).trans nk4); have nl5 : w3.cell? ⟨nb, noff + 5, none⟩ = some (.int .i64 x5) := (World.grownBy.cell_far hg3 ⟨nb, noff + 5, none⟩ (Nat.lt_of_lt_of_le hnl hAs) hnA.symm).trans (((bcell hAB).1 _ _ hnl).trans nk5); have nl6 : w3.cell? ⟨nb, noff + 6, none⟩ = some (.int .i64 x6) := (World.grownBy.cell_far hg3 ⟨nb, noff + 6, none⟩ (Nat.lt_of_lt_of_le hnl hAs) hnA.symm).trans (((bcell hAB).1 _ _ hnl).trans nk6); have nl7 : w3.cell? ⟨nb, noff + 7, none⟩ = some (.int .i64 x7) := (World.grownBy.cell_far hg3 ⟨nb, noff + 7, none⟩ (Nat.lt_of_lt_of_le hnl hAs) hnA.symm).trans (((bcell hAB).1 _ _ hnl).trans nk7); obtain ⟨kc0, kc1, kc2, kf0, kf1, kf2, klt⟩ := box3 gR3))
    have hsz3 := hw3.size
    go_wp2_with (go_at_call 24; refine (HM.out _ _ _ (HIN _ _ _ hown3)).mono ?_; rintro en w4 ⟨rfl, hb4⟩; have gR4 := blk_keep hb4 gR3; have own4 := own_below own3 hb4; have ownN := own_below hown3 hb4; have hw4 := hw3.trans (hb4.mono (Nat.le_trans hFR (Nat.le_of_lt (blk_lt gR3)))); obtain ⟨mc0, mc1, mc2, mf0, mf1, mf2, mlt⟩ := box3 gR4)
    go_ret
    exact ⟨rfl, ⟨A, cap, gR4, own4⟩, hw4⟩
  | true =>
    rw [hmv] at HM
    rw [if_pos rfl]
    clear hmv
    go_enter Try.func48, Try.ntmps48
    go_wp2_with (go_at_call 61; refine (HU.out _ (below1 _ _)).mono ?_; rintro en w1 ⟨a1, c1, a2, c2, rfl, oi, ob, hb1⟩; have hb1' : Below w.heap.size w w1 := alloc_below hb1; have hal := below1 w1 (.cells #[.slice a1 8 c1, .slice a2 0 c2] 90); have hbw := hb1'.trans (hal.mono hb1'.size); have gR := blk_keep hbw g; have ownR := own_below hown hbw; have gB := blk_alloc (blk_keep hb1 (blk_new w (.cells #[.int .i64 2, .slice d body.length cd] 77))) (.cells #[.slice a1 8 c1, .slice a2 0 c2] 90); have gX := blk_new w1 (.cells #[.slice a1 8 c1, .slice a2 0 c2] 90); have hci := RowAt.below (RowAt.of_own oi) hal; obtain ⟨rc0, rc1, rc2, rf0, rf1, rf2, rlt⟩ := box3 gR; obtain ⟨bc0, bc1, bf0, bf1, blt⟩ := box2 gB; obtain ⟨xc0, xc1, xf0, xf1, xlt⟩ := box2 gX; have hbF := hbw.mono hF)
    obtain ⟨nb, noff, ha0, hnlt, nc0⟩ := CellsI.at hci (k := 0) (by simp)
    subst ha0
    obtain ⟨_, _, ha1, _, nc1⟩ := CellsI.at hci (k := 1) (by simp)
    cases ha1
    obtain ⟨_, _, ha1, _, nc2⟩ := CellsI.at hci (k := 2) (by simp)
    cases ha1
    obtain ⟨_, _, ha1, _, nc3⟩ := CellsI.at hci (k := 3) (by simp)
    cases ha1
    obtain ⟨_, _, ha1, _, nc4⟩ := CellsI.at hci (k := 4) (by simp)
    cases ha1
    obtain ⟨_, _, ha1, _, nc5⟩ := CellsI.at hci (k := 5) (by simp)
    cases ha1
    obtain ⟨_, _, ha1, _, nc6⟩ := CellsI.at hci (k := 6) (by simp)
    cases ha1
    obtain ⟨_, _, ha1, _, nc7⟩ := CellsI.at hci (k := 7) (by simp)
    cases ha1
    rw [Nat.add_zero] at nc0
    simp only [List.getElem_cons_zero, List.getElem_cons_succ] at nc0 nc1 nc2 nc3 nc4 nc5 nc6 nc7
    have hnb : w.heap.size ≤ nb := Nat.le_trans (below1 w (.cells #[.int .i64 2, .slice d body.length cd] 77)).size (own_from oi (by simp) nb noff rfl)
    go_quiet (fail)
    clear hwr
    go_wp2
    have nk1 : ((w1.alloc (.cells #[.slice (some ⟨nb, noff, none⟩) ([x0, x1, x2, x3, x4, x5, x6, x7] : List Int).length c1, .slice a2 ([] : List UInt8).length c2] 90)).drewN nq).cell? ⟨nb, noff + 1, none⟩ = some (.int .i64 x1) := nc1
    have nk2 : ((w1.alloc (.cells #[.slice (some ⟨nb, noff, none⟩) ([x0, x1, x2, x3, x4, x5, x6, x7] : List Int).length c1, .slice a2 ([] : List UInt8).length c2] 90)).drewN nq).cell? ⟨nb, noff + 2, none⟩ = some (.int .i64 x2) := nc2
    have nk3 : ((w1.alloc (.cells #[.slice (some ⟨nb, noff, none⟩) ([x0, x1, x2, x3, x4, x5, x6, x7] : List Int).length c1, .slice a2 ([] : List UInt8).length c2] 90)).drewN nq).cell? ⟨nb, noff + 3, none⟩ = some (.int .i64 x3) := nc3
    have nk4 : ((w1.alloc (.cells #[.slice (some ⟨nb, noff, none⟩) ([x0, x1, x2, x3, x4, x5, x6, x7] : List Int).length c1, .slice a2 ([] : List UInt8).length c2] 90)).drewN nq).cell? ⟨nb, noff + 4, none⟩ = some (.int .i64 x4) := nc4
    have nk5 : ((w1.alloc (.cells #[.slice (some ⟨nb, noff, none⟩) ([x0, x1, x2, x3, x4, x5, x6, x7] : List Int).length c1, .slice a2 ([] : List UInt8).length c2] 90)).drewN nq).cell? ⟨nb, noff + 5, none⟩ = some (.int .i64 x5) := nc5
    have nk6 : ((w1.alloc (.cells #[.slice (some ⟨nb, noff, none⟩) ([x0, x1, x2, x3, x4, x5, x6, x7] : List Int).length c1, .slice a2 ([] : List UInt8).length c2] 90)).drewN nq).cell? ⟨nb, noff + 6, none⟩ = some (.int .i64 x6) := nc6
    have nk7 : ((w1.alloc (.cells #[.slice (some ⟨nb, noff, none⟩) ([x0, x1, x2, x3, x4, x5, x6, x7] : List Int).length c1, .slice a2 ([] : List UInt8).length c2] 90)).drewN nq).cell? ⟨nb, noff + 7, none⟩ = some (.int .i64 x7) := nc7
    have gRW : ((w1.alloc (.cells #[.slice (some ⟨nb, noff, none⟩) ([x0, x1, x2, x3, x4, x5, x6, x7] : List Int).length c1, .slice a2 ([] : List UInt8).length c2] 90)).drewN nq).heap[R]? = some (.cells #[.int .i64 t0, .int .i64 v0, .slice A es.length cap] 61) := gR
    have ownW : ((w1.alloc (.cells #[.slice (some ⟨nb, noff, none⟩) ([x0, x1, x2, x3, x4, x5, x6, x7] : List Int).length c1, .slice a2 ([] : List UInt8).length c2] 90)).drewN nq).ownsRow base 41 7 (.slice A es.length cap) es.length (ensV es) := ownR
    have hWF : Below F w ((w1.alloc (.cells #[.slice (some ⟨nb, noff, none⟩) ([x0, x1, x2, x3, x4, x5, x6, x7] : List Int).length c1, .slice a2 ([] : List UInt8).length c2] 90)).drewN nq) := Below.many hbF nq
    have hwW : Below w.heap.size w ((w1.alloc (.cells #[.slice (some ⟨nb, noff, none⟩) ([x0, x1, x2, x3, x4, x5, x6, x7] : List Int).length c1, .slice a2 ([] : List UInt8).length c2] 90)).drewN nq) := Below.many hbw nq
    have hnl : nb < ((w1.alloc (.cells #[.slice (some ⟨nb, noff, none⟩) ([x0, x1, x2, x3, x4, x5, x6, x7] : List Int).length c1, .slice a2 ([] : List UInt8).length c2] 90)).drewN nq).heap.size := hnlt
    have hbW : base ≤ ((w1.alloc (.cells #[.slice (some ⟨nb, noff, none⟩) ([x0, x1, x2, x3, x4, x5, x6, x7] : List Int).length c1, .slice a2 ([] : List UInt8).length c2] 90)).drewN nq).heap.size := Nat.le_trans hbs hbw.size
    clear nc0 nc1 nc2 nc3 nc4 nc5 nc6 nc7 gR ownR hbF gX gB hci rc0 rc1 rc2 rf0 rf1 rf2 rlt bc0 bc1 bf0 bf1 blt xc0 xc1 xf0 xf1 xlt hal hbw
    generalize ((w1.alloc (.cells #[.slice (some ⟨nb, noff, none⟩) ([x0, x1, x2, x3, x4, x5, x6, x7] : List Int).length c1, .slice a2 ([] : List UInt8).length c2] 90)).drewN nq) = W at *
    obtain ⟨rc0, rc1, rc2, rf0, rf1, rf2, rlt⟩ := box3 gRW
    have hRow : RowAt (W.drew.alloc (.cells #[.int .i64 x1, .int .i64 x2, .int .i64 x3, .int .i64 x4, .int .i64 x5, .int .i64 x6, .int .i64 x7] 41)) (some ⟨W.heap.size, 0, none⟩) (ensV [((x1, x2, x3, x4, x5, x6, x7) : En)]) := RowAt.new W.drew #[.int .i64 x1, .int .i64 x2, .int .i64 x3, .int .i64 x4, .int .i64 x5, .int .i64 x6, .int .i64 x7] 41
    have hAB : Below W.heap.size W (W.drew.alloc (.cells #[.int .i64 x1, .int .i64 x2, .int .i64 x3, .int .i64 x4, .int .i64 x5, .int .i64 x6, .int .i64 x7] 41)) := (below0 W).drew.alloc (below0 W).drew.size (.cells #[.int .i64 x1, .int .i64 x2, .int .i64 x3, .int .i64 x4, .int .i64 x5, .int .i64 x6, .int .i64 x7] 41)
    obtain ⟨jc0, jc1, jc2, _, _, _, _⟩ := box3 (blk_keep hAB gRW)
    have hnA : (Value.slice A es.length cap).ownBlock ≠ some nb := fun e => by have := (hown.lt _ e).2; omega
    have hAs := hAB.size
    go_region_held3 (fun Z => Z.cell? ⟨R, 2, none⟩ = some (.slice A es.length cap) ∧ Z.cell? ⟨nb, noff + 1, none⟩ = some (.int .i64 x1) ∧ Z.cell? ⟨nb, noff + 2, none⟩ = some (.int .i64 x2) ∧ Z.cell? ⟨nb, noff + 3, none⟩ = some (.int .i64 x3) ∧ Z.cell? ⟨nb, noff + 4, none⟩ = some (.int .i64 x4) ∧ Z.cell? ⟨nb, noff + 5, none⟩ = some (.int .i64 x5) ∧ Z.cell? ⟨nb, noff + 6, none⟩ = some (.int .i64 x6) ∧ Z.cell? ⟨nb, noff + 7, none⟩ = some (.int .i64 x7)) (first | exact ⟨rc2, nk1, nk2, nk3, nk4, nk5, nk6, nk7⟩ | exact ⟨kc2, nl1, nl2, nl3, nl4, nl5, nl6, nl7⟩ | go_keep) ((refine step_append_row2 rfl (.tmp 73) (.tmp 97) rfl elemE base (.slice A es.length cap) es.length (ensV es) (by rfl) (own_below ownW hAB) ⟨W.heap.size, 0, none⟩ 1 1 (ensV [((x1, x2, x3, x4, x5, x6, x7) : En)]) (by rfl) (ensV_length _) hRow (ensV_one _) (by decide) (by unfold maxLen; omega) (by omega) (Nat.le_trans hbW hAs) ?_; intro a3 c3 w3 hown3 hg3 own3; have hne : ∀ j, j < base → (Value.slice A es.length cap).ownBlock ≠ some j := (fun j hj e => by have := (ownW.lt _ e).1; omega); have gR3 := blk_grown hg3 (blk_keep hAB gRW) (hne _ hRb); have hw3 : Below F w w3 := Below.appended (hWF.trans (hAB.mono (Nat.le_trans hF (hwW.size)))) (own_below ownW hAB) hg3 (Nat.le_trans hF (Nat.le_trans hwW.size hAs)) (by omega); have nl1 : w3.cell? ⟨nb, noff + 1, none⟩ = some (.int .i64 x1) := (World.grownBy.cell_far hg3 ⟨nb, noff + 1, none⟩ (Nat.lt_of_lt_of_le hnl hAs) hnA.symm).trans (((bcell hAB).1 _ _ hnl).trans nk1); have nl2 : w3.cell? ⟨nb, noff + 2, none⟩ = some (.int .i64 x2) := (World.grownBy.cell_far hg3 ⟨nb, noff + 2, none⟩ (Nat.lt_of_lt_of_le hnl hAs) hnA.symm).trans (((bcell hAB).1 _ _ hnl).trans nk2); have nl3 : w3.cell? ⟨nb, noff + 3, none⟩ = some (.int .i64 x3) := (World.grownBy.cell_far hg3 ⟨nb, noff + 3, none⟩ (Nat.lt_of_lt_of_le hnl hAs) hnA.symm).trans (((bcell hAB).1 _ _ hnl).trans nk3); have nl4 : w3.cell? ⟨nb, noff + 4, none⟩ = some (.int .i64 x4) := (World.grownBy.cell_far hg3 ⟨nb, noff + 4, none⟩ (Nat.lt_of_lt_of_le hnl hAs) hnA.symm).trans (((bcell hAB).1 _ _ hnl).trans nk4); have nl5 : w3.cell? ⟨nb, noff + 5, none⟩ = some (.int .i64 x5) := (World.grownBy.cell_far hg3 ⟨nb, noff + 5, none⟩ (Nat.lt_of_lt_of_le hnl hAs) hnA.symm).trans (((bcell hAB).1 _ _ hnl).trans nk5); have nl6 : w3.cell? ⟨nb, noff + 6, none⟩ = some (.int .i64 x6) := (World.grownBy.cell_far hg3 ⟨nb, noff + 6, none⟩ (Nat.lt_of_lt_of_le hnl hAs) hnA.symm).trans (((bcell hAB).1 _ _ hnl).trans nk6); have nl7 : w3.cell? ⟨nb, noff + 7, none⟩ = some (.int .i64 x7) := (World.grownBy.cell_far hg3 ⟨nb, noff + 7, none⟩ (Nat.lt_of_lt_of_le hnl hAs) hnA.symm).trans (((bcell hAB).1 _ _ hnl).trans nk7); obtain ⟨kc0, kc1, kc2, kf0, kf1, kf2, klt⟩ := box3 gR3))
    have hsz3 := hw3.size
    go_wp2_with (go_at_call 24; refine (HM.out _ _ _ (HIN _ _ _ hown3)).mono ?_; rintro en w4 ⟨rfl, hb4⟩; have gR4 := blk_keep hb4 gR3; have own4 := own_below own3 hb4; have ownN := own_below hown3 hb4; have hw4 := hw3.trans (hb4.mono (Nat.le_trans hFR (Nat.le_of_lt (blk_lt gR3)))); obtain ⟨mc0, mc1, mc2, mf0, mf1, mf2, mlt⟩ := box3 gR4)
    go_ret
    refine ⟨rfl, ⟨a3, c3, ?_, ?_⟩, hw4.setCell (p := ⟨R, 2, none⟩) hFR _⟩
    · simp only [Option.getD_some, HEL.out]
      exact blk_set (i := 2) gR4 (.slice a3 (es.length + 1) c3)
    · simp only [Option.getD_some, HEL.out, HAP.out]
      exact ownsRow_setCell_below ownN (a := ⟨R, 2, none⟩) hRb _
end Go.Proofs.Ytnbljcbfnplbaaa
