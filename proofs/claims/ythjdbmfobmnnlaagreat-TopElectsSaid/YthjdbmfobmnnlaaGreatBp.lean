/-
  Bp: several texts in one.
-/
import Derived.Test.YthjdbmfobmnnlaaGreatBn
import Derived.Deep.QuietTactic
import Derived.BigQuiet
import Derived.BigRegion
import Derived.Test.YthjdbmfobmnnlaaGreatBo
/-
  A step leaves entries.
-/
namespace Go.Proofs.YthjdbmfobmnnlaaGreat
open Go.RowKit
set_option linter.unusedVariables false
set_option maxRecDepth 100000 in
set_option maxHeartbeats 12800000 in
theorem vstep_left (R base F : Nat) (s : St) (x0 : Int) (d : Option Addr) (cd : Nat) (body : List UInt8) (w : World) (hs : StAt w R base s) (hRb : R < base) (hFR : F ≤ R) (hbs : base ≤ w.heap.size) (hok : StOk s)
    (hd : CellsB w d body) (hcap : body.length ≤ cd) (hz : d = none → body.length = 0) (hlm : body.length ≤ 1000000)
    (hun : unpackP body = (0, [x0], [])) (hx0 : x0 ≤ (s.2.2.length : Int)) :
    Calls Tryz.prog 185 #[.pointer (some ⟨R, 0, none⟩), .agg #[.int .i64 3, .slice d body.length cd]] w (RetStep R base F s (some (s.1, s.2.1, s.2.2.take x0.toNat)) w) := by
  have hnn : 0 ≤ x0 := ((packE_zero (unpackP_back hun).1).2.2 x0 (by simp)).1
  have HU : Hid (∀ W, Below w.heap.size w W → Calls Tryz.prog 251 #[.slice d body.length cd] W (RetUn (unpackP body) W)) := fun W h => unpack_any d cd body W (hd.below h) hcap hz hlm
  have hF : F ≤ w.heap.size := by omega
  obtain ⟨t0, v0, es⟩ := s
  obtain ⟨A, cap, g, hown⟩ := hs
  simp only at g hown hx0
  have h64 := (mayL_true hok.2).2.2.2.2.2.1
  simp only at h64
  have h64' : (es.length : Int) ≤ 64 := by omega
  simp only
  rw [hun] at HU
  clear hd hcap hz hlm hun
  obtain ⟨j, rfl⟩ : ∃ j : Nat, x0 = (j : Int) := ⟨x0.toNat, by omega⟩
  have hj : j ≤ es.length := by omega
  rw [Int.toNat_natCast]
  go_enter Tryz.func185, Tryz.ntmps185
  go_wp2_with (go_at_call 251; refine (HU.out _ (below1 _ _)).mono ?_; rintro en w1 ⟨a1, c1, a2, c2, rfl, oi, ob, hb1⟩; have hb1' : Below w.heap.size w w1 := alloc_below hb1; have hal := below1 w1 (.cells #[.slice a1 1 c1, .slice a2 0 c2] 259); have hbw := hb1'.trans (hal.mono hb1'.size); have gR := blk_keep hbw g; have ownR := own_below hown hbw; have gB := blk_alloc (blk_keep hb1 (blk_new w (.cells #[.int .i64 3, .slice d body.length cd] 262))) (.cells #[.slice a1 1 c1, .slice a2 0 c2] 259); have gX := blk_new w1 (.cells #[.slice a1 1 c1, .slice a2 0 c2] 259); have hci := RowAt.below (RowAt.of_own oi) hal; obtain ⟨rc0, rc1, rc2, rf0, rf1, rf2, rlt⟩ := box3 gR; obtain ⟨bc0, bc1, bf0, bf1, blt⟩ := box2 gB; obtain ⟨xc0, xc1, xf0, xf1, xlt⟩ := box2 gX; have hbF := hbw.mono hF)
  obtain ⟨nb, noff, rfl, hnlt, nc0⟩ := CellsI.at hci (k := 0) (by simp)
  rw [Nat.add_zero] at nc0
  simp only [List.getElem_cons_zero] at nc0
  go_quiet (fail)
  go_wp2
  go_quiet (fail)
  go_wp2
  rename_i mq
  have gRW : (((w1.alloc (.cells #[.slice (some ⟨nb, noff, none⟩) ([(j : Int)] : List Int).length c1, .slice a2 ([] : List UInt8).length c2] 259)).drewN mq).drewN nq).heap[R]? = some (.cells #[.int .i64 t0, .int .i64 v0, .slice A es.length cap] 116) := gR
  have ownW : (((w1.alloc (.cells #[.slice (some ⟨nb, noff, none⟩) ([(j : Int)] : List Int).length c1, .slice a2 ([] : List UInt8).length c2] 259)).drewN mq).drewN nq).ownsRow base 82 7 (.slice A es.length cap) es.length (ensV es) := ownR
  have nk : (((w1.alloc (.cells #[.slice (some ⟨nb, noff, none⟩) ([(j : Int)] : List Int).length c1, .slice a2 ([] : List UInt8).length c2] 259)).drewN mq).drewN nq).cell? ⟨nb, noff, none⟩ = some (.int .i64 (j : Int)) := nc0
  have hWF : Below F w (((w1.alloc (.cells #[.slice (some ⟨nb, noff, none⟩) ([(j : Int)] : List Int).length c1, .slice a2 ([] : List UInt8).length c2] 259)).drewN mq).drewN nq) := Below.many (Below.many hbF mq) nq
  clear nc0 gR ownR hbF gX gB hci rc0 rc1 rc2 rf0 rf1 rf2 rlt bc0 bc1 bf0 bf1 blt xc0 xc1 xf0 xf1 xlt hal hbw
  generalize (((w1.alloc (.cells #[.slice (some ⟨nb, noff, none⟩) ([(j : Int)] : List Int).length c1, .slice a2 ([] : List UInt8).length c2] 259)).drewN mq).drewN nq) = W at *
  obtain ⟨rc0, rc1, rc2, rf0, rf1, rf2, rlt⟩ := box3 gRW
  have hsl : (Instr.slice 34 (.slice A es.length cap) none (some (.int .i64 (j : Int))) none).run Tryz.prog W = .ok (.slice A j cap) W := slice_toS elemE A es.length cap j (Nat.le_trans hj (own_le' ownW)) W
  have hlen : (es.take j).length = j := by rw [List.length_take]; omega
  have hjc : j ≤ cap := Nat.le_trans hj (own_le' ownW)
  go_region
  go_wp2
  go_ret
  refine ⟨rfl, ⟨A, cap, ?_, ?_⟩, (hWF.setCell (p := ⟨R, 2, none⟩) hFR _).drew⟩
  · simp only [Option.getD_some, hlen]
    exact blk_set (i := 2) gRW (.slice A j cap)
  · simp only [Option.getD_some, hlen]
    rw [← ensV_take]
    exact ownsRow_setCell_below (own_front ownW hj) (a := ⟨R, 2, none⟩) hRb _
end Go.Proofs.YthjdbmfobmnnlaaGreat

/-
  A step of a vault.
-/
namespace Go.Proofs.YthjdbmfobmnnlaaGreat
open Go.RowKit
set_option linter.unusedVariables false
set_option maxRecDepth 100000 in
set_option maxHeartbeats 12800000 in
theorem vstep_any (R base F : Nat) (s : St) (k : Int) (d : Option Addr) (cd : Nat) (body : List UInt8) (w : World) (hs : StAt w R base s) (hRb : R < base) (hFR : F ≤ R) (hbs : base ≤ w.heap.size) (hok : StOk s)
    (hd : CellsB w d body) (hcap : body.length ≤ cd) (hz : d = none → body.length = 0) (hlm : body.length ≤ 1000000) :
    Calls Tryz.prog 185 #[.pointer (some ⟨R, 0, none⟩), .agg #[.int .i64 k, .slice d body.length cd]] w (RetStep R base F s (stepV s (k, body)) w) := by
  have HU : Hid (∀ W, Below w.heap.size w W → Calls Tryz.prog 251 #[.slice d body.length cd] W (RetUn (unpackP body) W)) := fun W h => unpack_any d cd body W (hd.below h) hcap hz hlm
  have hF : F ≤ w.heap.size := by omega
  obtain ⟨t0, v0, es⟩ := s
  obtain ⟨A, cap, g, hown⟩ := hs
  simp only at g hown
  have h64 := (mayL_true hok.2).2.2.2.2.2.1
  simp only at h64
  have h64' : (es.length : Int) ≤ 64 := by omega
  unfold stepV
  simp only
  have hd0 := Lib.hid hd
  have hcap0 := Lib.hid hcap
  have hz0 := Lib.hid hz
  have hlm0 := Lib.hid hlm
  clear hd hcap hz hlm
  have hul := unpackP_len body
  generalize hgu : unpackP body = u at HU hul ⊢
  have hun := Lib.hid hgu
  clear hgu
  obtain ⟨ue, n, x⟩ := u
  simp only at hul ⊢
  by_cases he : ue = 0
  rotate_left 1
  · rw [if_neg (fun h => he h.1)]
    have he1 : (ue != 0) = true := by simpa using he
    clear he
    go_enter Tryz.func185, Tryz.ntmps185
    go_wp2_with (go_at_call 251; refine (HU.out _ (below1 _ _)).mono ?_; rintro en w1 ⟨a1, c1, a2, c2, rfl, oi, ob, hb1⟩; have hb1' : Below w.heap.size w w1 := alloc_below hb1; have hal := below1 w1 (.cells #[.slice a1 n.length c1, .slice a2 x.length c2] 259); have hbw := hb1'.trans (hal.mono hb1'.size); have gR := blk_keep hbw g; have ownR := own_below hown hbw; have gB := blk_alloc (blk_keep hb1 (blk_new w (.cells #[.int .i64 k, .slice d body.length cd] 262))) (.cells #[.slice a1 n.length c1, .slice a2 x.length c2] 259); have gX := blk_new w1 (.cells #[.slice a1 n.length c1, .slice a2 x.length c2] 259); have hci := RowAt.below (RowAt.of_own oi) hal; obtain ⟨rc0, rc1, rc2, rf0, rf1, rf2, rlt⟩ := box3 gR; obtain ⟨bc0, bc1, bf0, bf1, blt⟩ := box2 gB; obtain ⟨xc0, xc1, xf0, xf1, xlt⟩ := box2 gX; have hbF := hbw.mono hF)
    go_ret
    exact ⟨rfl, ⟨A, cap, gR, ownR⟩, hbF⟩
  subst he
  by_cases hx : x.length = 0
  rotate_left 1
  · rw [if_neg (fun h => hx h.2)]
    have hx1 : (0 : Int) < (x.length : Int) := by omega
    have hx2 : 0 < x.length := by omega
    clear hx
    go_enter Tryz.func185, Tryz.ntmps185
    go_wp2_with (go_at_call 251; refine (HU.out _ (below1 _ _)).mono ?_; rintro en w1 ⟨a1, c1, a2, c2, rfl, oi, ob, hb1⟩; have hb1' : Below w.heap.size w w1 := alloc_below hb1; have hal := below1 w1 (.cells #[.slice a1 n.length c1, .slice a2 x.length c2] 259); have hbw := hb1'.trans (hal.mono hb1'.size); have gR := blk_keep hbw g; have ownR := own_below hown hbw; have gB := blk_alloc (blk_keep hb1 (blk_new w (.cells #[.int .i64 k, .slice d body.length cd] 262))) (.cells #[.slice a1 n.length c1, .slice a2 x.length c2] 259); have gX := blk_new w1 (.cells #[.slice a1 n.length c1, .slice a2 x.length c2] 259); have hci := RowAt.below (RowAt.of_own oi) hal; obtain ⟨rc0, rc1, rc2, rf0, rf1, rf2, rlt⟩ := box3 gR; obtain ⟨bc0, bc1, bf0, bf1, blt⟩ := box2 gB; obtain ⟨xc0, xc1, xf0, xf1, xlt⟩ := box2 gX; have hbF := hbw.mono hF)
    go_ret
    exact ⟨rfl, ⟨A, cap, gR, ownR⟩, hbF⟩
  rw [if_pos ⟨rfl, hx⟩]
  obtain rfl := List.eq_nil_of_length_eq_zero hx
  clear hx
  unfold stepN
  simp only
  by_cases c1 : k = 1 ∧ n.length = 2
  · obtain ⟨rfl, hn⟩ := c1
    rw [if_pos ⟨rfl, hn⟩]
    obtain ⟨x0, x1, rfl⟩ := list_two hn
    clear hn
    have HM : Hid (∀ W, Calls Tryz.prog 112 #[ballotV x0 x1] W fun e w' => e = .returned (.bool (mayV x0 x1)) ∧ Below W.heap.size W w') := fun W => mayV_any x0 x1 W
    show Calls _ _ _ _ (RetStep R base F (t0, v0, es) (if mayV x0 x1 = true then some (x0, x1, es) else none) w)
    have hok' := hok
    cases hmv : mayV x0 x1 with
    | false =>
      rw [hmv] at HM
      rw [if_neg (by decide)]
      clear hmv
      go_enter Tryz.func185, Tryz.ntmps185
      go_wp2_with (go_at_call 251; refine (HU.out _ (below1 _ _)).mono ?_; rintro en w1 ⟨a1, c1, a2, c2, rfl, oi, ob, hb1⟩; have hb1' : Below w.heap.size w w1 := alloc_below hb1; have hal := below1 w1 (.cells #[.slice a1 2 c1, .slice a2 0 c2] 259); have hbw := hb1'.trans (hal.mono hb1'.size); have gR := blk_keep hbw g; have ownR := own_below hown hbw; have gB := blk_alloc (blk_keep hb1 (blk_new w (.cells #[.int .i64 1, .slice d body.length cd] 262))) (.cells #[.slice a1 2 c1, .slice a2 0 c2] 259); have gX := blk_new w1 (.cells #[.slice a1 2 c1, .slice a2 0 c2] 259); have hci := RowAt.below (RowAt.of_own oi) hal; obtain ⟨rc0, rc1, rc2, rf0, rf1, rf2, rlt⟩ := box3 gR; obtain ⟨bc0, bc1, bf0, bf1, blt⟩ := box2 gB; obtain ⟨xc0, xc1, xf0, xf1, xlt⟩ := box2 gX; have hbF := hbw.mono hF)
      obtain ⟨nb, noff, ha1, hnlt, nc0⟩ := CellsI.at hci (k := 0) (by simp)
      subst ha1
      obtain ⟨nb', noff', ha2, hnlt', nc1⟩ := CellsI.at hci (k := 1) (by simp)
      cases ha2
      rw [Nat.add_zero] at nc0
      simp only [List.getElem_cons_zero, List.getElem_cons_succ] at nc0 nc1
      go_region_held3 (fun W => W.cell? ⟨nb, noff, none⟩ = some (.int .i64 x0) ∧ W.cell? ⟨nb, noff + 1, none⟩ = some (.int .i64 x1)) (first | exact ⟨nc0, nc1⟩ | go_keep) (fail)
      have hal2 : Below (w1.alloc (.cells #[.slice (some ⟨nb, noff, none⟩) ([x0, x1] : List Int).length c1, .slice a2 ([] : List UInt8).length c2] 259)).heap.size (w1.alloc (.cells #[.slice (some ⟨nb, noff, none⟩) ([x0, x1] : List Int).length c1, .slice a2 ([] : List UInt8).length c2] 259)) ((w1.alloc (.cells #[.slice (some ⟨nb, noff, none⟩) ([x0, x1] : List Int).length c1, .slice a2 ([] : List UInt8).length c2] 259)).alloc (.cells #[.int .i64 x0, .int .i64 x1] 114)).drew := (below1 _ _).drew
      have gR2 := blk_keep hal2 gR
      have own2 := own_below ownR hal2
      have gBal : ((w1.alloc (.cells #[.slice (some ⟨nb, noff, none⟩) ([x0, x1] : List Int).length c1, .slice a2 ([] : List UInt8).length c2] 259)).alloc (.cells #[.int .i64 x0, .int .i64 x1] 114)).drew.heap[w1.heap.size + 1]? = some (.cells #[.int .i64 x0, .int .i64 x1] 114) := alloc2_snd w1 (.cells #[.slice (some ⟨nb, noff, none⟩) ([x0, x1] : List Int).length c1, .slice a2 ([] : List UInt8).length c2] 259) (.cells #[.int .i64 x0, .int .i64 x1] 114)
      have hb2 := hbw.trans (hal2.mono hbw.size)
      obtain ⟨lc0, lc1, lf0, lf1, llt⟩ := box2 gBal
      obtain ⟨rc0, rc1, rc2, rf0, rf1, rf2, rlt⟩ := box3 gR2
      go_wp2_with (go_at_call 112; refine (HM.out _).mono ?_; rintro en w3 ⟨rfl, hb3⟩; have gR3 := blk_keep hb3 gR2; have own3 := own_below own2 hb3; have gBal3 := blk_keep hb3 gBal; have hw3 := (hb2.trans (hb3.mono hb2.size)).mono hF; obtain ⟨lc0, lc1, lf0, lf1, llt⟩ := box2 gBal3; obtain ⟨rc0, rc1, rc2, rf0, rf1, rf2, rlt⟩ := box3 gR3)
      go_ret
      exact ⟨rfl, ⟨A, cap, gR3, own3⟩, hw3⟩
    | true =>
      rw [hmv] at HM
      rw [if_pos rfl]
      clear hmv
      go_enter Tryz.func185, Tryz.ntmps185
      go_wp2_with (go_at_call 251; refine (HU.out _ (below1 _ _)).mono ?_; rintro en w1 ⟨a1, c1, a2, c2, rfl, oi, ob, hb1⟩; have hb1' : Below w.heap.size w w1 := alloc_below hb1; have hal := below1 w1 (.cells #[.slice a1 2 c1, .slice a2 0 c2] 259); have hbw := hb1'.trans (hal.mono hb1'.size); have gR := blk_keep hbw g; have ownR := own_below hown hbw; have gB := blk_alloc (blk_keep hb1 (blk_new w (.cells #[.int .i64 1, .slice d body.length cd] 262))) (.cells #[.slice a1 2 c1, .slice a2 0 c2] 259); have gX := blk_new w1 (.cells #[.slice a1 2 c1, .slice a2 0 c2] 259); have hci := RowAt.below (RowAt.of_own oi) hal; obtain ⟨rc0, rc1, rc2, rf0, rf1, rf2, rlt⟩ := box3 gR; obtain ⟨bc0, bc1, bf0, bf1, blt⟩ := box2 gB; obtain ⟨xc0, xc1, xf0, xf1, xlt⟩ := box2 gX; have hbF := hbw.mono hF)
      obtain ⟨nb, noff, ha1, hnlt, nc0⟩ := CellsI.at hci (k := 0) (by simp)
      subst ha1
      obtain ⟨nb', noff', ha2, hnlt', nc1⟩ := CellsI.at hci (k := 1) (by simp)
      cases ha2
      rw [Nat.add_zero] at nc0
      simp only [List.getElem_cons_zero, List.getElem_cons_succ] at nc0 nc1
      go_region_held3 (fun W => W.cell? ⟨nb, noff, none⟩ = some (.int .i64 x0) ∧ W.cell? ⟨nb, noff + 1, none⟩ = some (.int .i64 x1)) (first | exact ⟨nc0, nc1⟩ | go_keep) (fail)
      have hal2 : Below (w1.alloc (.cells #[.slice (some ⟨nb, noff, none⟩) ([x0, x1] : List Int).length c1, .slice a2 ([] : List UInt8).length c2] 259)).heap.size (w1.alloc (.cells #[.slice (some ⟨nb, noff, none⟩) ([x0, x1] : List Int).length c1, .slice a2 ([] : List UInt8).length c2] 259)) ((w1.alloc (.cells #[.slice (some ⟨nb, noff, none⟩) ([x0, x1] : List Int).length c1, .slice a2 ([] : List UInt8).length c2] 259)).alloc (.cells #[.int .i64 x0, .int .i64 x1] 114)).drew := (below1 _ _).drew
      have gR2 := blk_keep hal2 gR
      have own2 := own_below ownR hal2
      have gBal : ((w1.alloc (.cells #[.slice (some ⟨nb, noff, none⟩) ([x0, x1] : List Int).length c1, .slice a2 ([] : List UInt8).length c2] 259)).alloc (.cells #[.int .i64 x0, .int .i64 x1] 114)).drew.heap[w1.heap.size + 1]? = some (.cells #[.int .i64 x0, .int .i64 x1] 114) := alloc2_snd w1 (.cells #[.slice (some ⟨nb, noff, none⟩) ([x0, x1] : List Int).length c1, .slice a2 ([] : List UInt8).length c2] 259) (.cells #[.int .i64 x0, .int .i64 x1] 114)
      have hb2 := hbw.trans (hal2.mono hbw.size)
      obtain ⟨lc0, lc1, lf0, lf1, llt⟩ := box2 gBal
      obtain ⟨rc0, rc1, rc2, rf0, rf1, rf2, rlt⟩ := box3 gR2
      go_wp2_with (go_at_call 112; refine (HM.out _).mono ?_; rintro en w3 ⟨rfl, hb3⟩; have gR3 := blk_keep hb3 gR2; have own3 := own_below own2 hb3; have gBal3 := blk_keep hb3 gBal; have hw3 := (hb2.trans (hb3.mono hb2.size)).mono hF; obtain ⟨lc0, lc1, lf0, lf1, llt⟩ := box2 gBal3; obtain ⟨rc0, rc1, rc2, rf0, rf1, rf2, rlt⟩ := box3 gR3)
      go_ret
      exact ⟨rfl, ⟨A, cap, blk_set (i := 1) (blk_set (i := 0) gR3 (.int .i64 x0)) (.int .i64 x1), ownsRow_setCell_below (ownsRow_setCell_below own3 (a := ⟨R, 0, none⟩) hRb _) (a := ⟨R, 1, none⟩) hRb _⟩, (hw3.setCell (p := ⟨R, 0, none⟩) hFR _).setCell (p := ⟨R, 1, none⟩) hFR _⟩
  rw [if_neg c1]
  by_cases c2 : k = 2 ∧ n.length = 8 ∧ n.getD 0 0 = (es.length : Int) + 1
  · obtain ⟨rfl, hn, hn0⟩ := c2
    rw [if_pos ⟨rfl, hn, hn0⟩]
    obtain ⟨x0, x1, x2, x3, x4, x5, x6, x7, rfl⟩ := list_eight hn
    exact vstep_ent R base F (t0, v0, es) x0 x1 x2 x3 x4 x5 x6 x7 d cd body w ⟨A, cap, g, hown⟩ hRb hFR hbs hok hd0.out hcap0.out hz0.out hlm0.out hun.out hn0
  rw [if_neg c2]
  by_cases c3 : k = 3 ∧ n.length = 1 ∧ n.getD 0 0 ≤ (es.length : Int)
  · obtain ⟨rfl, hn, hn0⟩ := c3
    rw [if_pos ⟨rfl, hn, hn0⟩]
    obtain ⟨x0, rfl⟩ := list_one hn
    exact vstep_left R base F (t0, v0, es) x0 d cd body w ⟨A, cap, g, hown⟩ hRb hFR hbs hok hd0.out hcap0.out hz0.out hlm0.out hun.out hn0
  rw [if_neg c3]
  -- none of them
  by_cases k1 : k = 1
  · subst k1
    have hn2 : ((n.length : Int) == 2) = false := by rw [beq_eq_false_iff_ne]; omega
    clear c1 c2 c3
    go_enter Tryz.func185, Tryz.ntmps185
    go_wp2_with (go_at_call 251; refine (HU.out _ (below1 _ _)).mono ?_; rintro en w1 ⟨a1, c1, a2, c2, rfl, oi, ob, hb1⟩; have hb1' : Below w.heap.size w w1 := alloc_below hb1; have hal := below1 w1 (.cells #[.slice a1 n.length c1, .slice a2 0 c2] 259); have hbw := hb1'.trans (hal.mono hb1'.size); have gR := blk_keep hbw g; have ownR := own_below hown hbw; have gB := blk_alloc (blk_keep hb1 (blk_new w (.cells #[.int .i64 1, .slice d body.length cd] 262))) (.cells #[.slice a1 n.length c1, .slice a2 0 c2] 259); have gX := blk_new w1 (.cells #[.slice a1 n.length c1, .slice a2 0 c2] 259); have hci := RowAt.below (RowAt.of_own oi) hal; obtain ⟨rc0, rc1, rc2, rf0, rf1, rf2, rlt⟩ := box3 gR; obtain ⟨bc0, bc1, bf0, bf1, blt⟩ := box2 gB; obtain ⟨xc0, xc1, xf0, xf1, xlt⟩ := box2 gX; have hbF := hbw.mono hF)
    go_quiet (fail)
    go_wp2
    go_quiet (fail)
    go_wp2
    go_ret
    exact ⟨rfl, ⟨A, cap, blk_many (blk_many gR _) _, own_many (own_many ownR _) _⟩, Below.many (Below.many hbF _) _⟩
  have k1' : (k == 1) = false := by rw [beq_eq_false_iff_ne]; exact k1
  by_cases k2 : k = 2
  · subst k2
    by_cases hn8 : n.length = 8
    · obtain ⟨x0, x1, x2, x3, x4, x5, x6, x7, rfl⟩ := list_eight hn8
      have hx0 : (x0 == (es.length : Int) + 1) = false := by rw [beq_eq_false_iff_ne]; exact fun h => c2 ⟨rfl, rfl, h⟩
      have hwr := wrap_id (x := (es.length : Int) + 1) (by omega) (by omega)
      clear c1 c2 c3 hn8 k1
      go_enter Tryz.func185, Tryz.ntmps185
      go_wp2_with (go_at_call 251; refine (HU.out _ (below1 _ _)).mono ?_; rintro en w1 ⟨a1, c1, a2, c2, rfl, oi, ob, hb1⟩; have hb1' : Below w.heap.size w w1 := alloc_below hb1; have hal := below1 w1 (.cells #[.slice a1 8 c1, .slice a2 0 c2] 259); have hbw := hb1'.trans (hal.mono hb1'.size); have gR := blk_keep hbw g; have ownR := own_below hown hbw; have gB := blk_alloc (blk_keep hb1 (blk_new w (.cells #[.int .i64 2, .slice d body.length cd] 262))) (.cells #[.slice a1 8 c1, .slice a2 0 c2] 259); have gX := blk_new w1 (.cells #[.slice a1 8 c1, .slice a2 0 c2] 259); have hci := RowAt.below (RowAt.of_own oi) hal; obtain ⟨rc0, rc1, rc2, rf0, rf1, rf2, rlt⟩ := box3 gR; obtain ⟨bc0, bc1, bf0, bf1, blt⟩ := box2 gB; obtain ⟨xc0, xc1, xf0, xf1, xlt⟩ := box2 gX; have hbF := hbw.mono hF)
      obtain ⟨nb, noff, rfl, hnlt, nc0⟩ := CellsI.at hci (k := 0) (by simp)
      rw [Nat.add_zero] at nc0
      simp only [List.getElem_cons_zero] at nc0
      go_quiet (fail)
      go_wp2
      go_quiet (fail)
      go_wp2
      go_ret
      exact ⟨rfl, ⟨A, cap, blk_many (blk_many gR _) _, own_many (own_many ownR _) _⟩, Below.many (Below.many hbF _) _⟩
    · have hn8' : ((n.length : Int) == 8) = false := by rw [beq_eq_false_iff_ne]; omega
      clear c1 c2 c3 hn8 k1
      go_enter Tryz.func185, Tryz.ntmps185
      go_wp2_with (go_at_call 251; refine (HU.out _ (below1 _ _)).mono ?_; rintro en w1 ⟨a1, c1, a2, c2, rfl, oi, ob, hb1⟩; have hb1' : Below w.heap.size w w1 := alloc_below hb1; have hal := below1 w1 (.cells #[.slice a1 n.length c1, .slice a2 0 c2] 259); have hbw := hb1'.trans (hal.mono hb1'.size); have gR := blk_keep hbw g; have ownR := own_below hown hbw; have gB := blk_alloc (blk_keep hb1 (blk_new w (.cells #[.int .i64 2, .slice d body.length cd] 262))) (.cells #[.slice a1 n.length c1, .slice a2 0 c2] 259); have gX := blk_new w1 (.cells #[.slice a1 n.length c1, .slice a2 0 c2] 259); have hci := RowAt.below (RowAt.of_own oi) hal; obtain ⟨rc0, rc1, rc2, rf0, rf1, rf2, rlt⟩ := box3 gR; obtain ⟨bc0, bc1, bf0, bf1, blt⟩ := box2 gB; obtain ⟨xc0, xc1, xf0, xf1, xlt⟩ := box2 gX; have hbF := hbw.mono hF)
      go_quiet (fail)
      go_wp2
      go_quiet (fail)
      go_wp2
      go_ret
      exact ⟨rfl, ⟨A, cap, blk_many (blk_many gR _) _, own_many (own_many ownR _) _⟩, Below.many (Below.many hbF _) _⟩
  have k2' : (k == 2) = false := by rw [beq_eq_false_iff_ne]; exact k2
  by_cases k3 : k = 3
  · subst k3
    by_cases hn1 : n.length = 1
    · obtain ⟨x0, rfl⟩ := list_one hn1
      have hx0 : (es.length : Int) < x0 := by
        rcases Int.lt_or_le (es.length : Int) x0 with h | h
        · exact h
        · exact (c3 ⟨rfl, rfl, h⟩).elim
      clear c1 c2 c3 hn1 k1 k2
      go_enter Tryz.func185, Tryz.ntmps185
      go_wp2_with (go_at_call 251; refine (HU.out _ (below1 _ _)).mono ?_; rintro en w1 ⟨a1, c1, a2, c2, rfl, oi, ob, hb1⟩; have hb1' : Below w.heap.size w w1 := alloc_below hb1; have hal := below1 w1 (.cells #[.slice a1 1 c1, .slice a2 0 c2] 259); have hbw := hb1'.trans (hal.mono hb1'.size); have gR := blk_keep hbw g; have ownR := own_below hown hbw; have gB := blk_alloc (blk_keep hb1 (blk_new w (.cells #[.int .i64 3, .slice d body.length cd] 262))) (.cells #[.slice a1 1 c1, .slice a2 0 c2] 259); have gX := blk_new w1 (.cells #[.slice a1 1 c1, .slice a2 0 c2] 259); have hci := RowAt.below (RowAt.of_own oi) hal; obtain ⟨rc0, rc1, rc2, rf0, rf1, rf2, rlt⟩ := box3 gR; obtain ⟨bc0, bc1, bf0, bf1, blt⟩ := box2 gB; obtain ⟨xc0, xc1, xf0, xf1, xlt⟩ := box2 gX; have hbF := hbw.mono hF)
      obtain ⟨nb, noff, rfl, hnlt, nc0⟩ := CellsI.at hci (k := 0) (by simp)
      rw [Nat.add_zero] at nc0
      simp only [List.getElem_cons_zero] at nc0
      go_quiet (fail)
      go_wp2
      go_quiet (fail)
      go_wp2
      go_ret
      exact ⟨rfl, ⟨A, cap, blk_many (blk_many gR _) _, own_many (own_many ownR _) _⟩, Below.many (Below.many hbF _) _⟩
    · have hn1' : ((n.length : Int) == 1) = false := by rw [beq_eq_false_iff_ne]; omega
      clear c1 c2 c3 hn1 k1 k2
      go_enter Tryz.func185, Tryz.ntmps185
      go_wp2_with (go_at_call 251; refine (HU.out _ (below1 _ _)).mono ?_; rintro en w1 ⟨a1, c1, a2, c2, rfl, oi, ob, hb1⟩; have hb1' : Below w.heap.size w w1 := alloc_below hb1; have hal := below1 w1 (.cells #[.slice a1 n.length c1, .slice a2 0 c2] 259); have hbw := hb1'.trans (hal.mono hb1'.size); have gR := blk_keep hbw g; have ownR := own_below hown hbw; have gB := blk_alloc (blk_keep hb1 (blk_new w (.cells #[.int .i64 3, .slice d body.length cd] 262))) (.cells #[.slice a1 n.length c1, .slice a2 0 c2] 259); have gX := blk_new w1 (.cells #[.slice a1 n.length c1, .slice a2 0 c2] 259); have hci := RowAt.below (RowAt.of_own oi) hal; obtain ⟨rc0, rc1, rc2, rf0, rf1, rf2, rlt⟩ := box3 gR; obtain ⟨bc0, bc1, bf0, bf1, blt⟩ := box2 gB; obtain ⟨xc0, xc1, xf0, xf1, xlt⟩ := box2 gX; have hbF := hbw.mono hF)
      go_quiet (fail)
      go_wp2
      go_quiet (fail)
      go_wp2
      go_ret
      exact ⟨rfl, ⟨A, cap, blk_many (blk_many gR _) _, own_many (own_many ownR _) _⟩, Below.many (Below.many hbF _) _⟩
  have k3' : (k == 3) = false := by rw [beq_eq_false_iff_ne]; exact k3
  clear c1 c2 c3 k1 k2 k3
  go_enter Tryz.func185, Tryz.ntmps185
  go_wp2_with (go_at_call 251; refine (HU.out _ (below1 _ _)).mono ?_; rintro en w1 ⟨a1, c1, a2, c2, rfl, oi, ob, hb1⟩; have hb1' : Below w.heap.size w w1 := alloc_below hb1; have hal := below1 w1 (.cells #[.slice a1 n.length c1, .slice a2 0 c2] 259); have hbw := hb1'.trans (hal.mono hb1'.size); have gR := blk_keep hbw g; have ownR := own_below hown hbw; have gB := blk_alloc (blk_keep hb1 (blk_new w (.cells #[.int .i64 k, .slice d body.length cd] 262))) (.cells #[.slice a1 n.length c1, .slice a2 0 c2] 259); have gX := blk_new w1 (.cells #[.slice a1 n.length c1, .slice a2 0 c2] 259); have hci := RowAt.below (RowAt.of_own oi) hal; obtain ⟨rc0, rc1, rc2, rf0, rf1, rf2, rlt⟩ := box3 gR; obtain ⟨bc0, bc1, bf0, bf1, blt⟩ := box2 gB; obtain ⟨xc0, xc1, xf0, xf1, xlt⟩ := box2 gX; have hbF := hbw.mono hF)
  go_quiet (fail)
  go_wp2
  go_quiet (fail)
  go_wp2
  go_ret
  exact ⟨rfl, ⟨A, cap, blk_many (blk_many gR _) _, own_many (own_many ownR _) _⟩, Below.many (Below.many hbF _) _⟩
end Go.Proofs.YthjdbmfobmnnlaaGreat
