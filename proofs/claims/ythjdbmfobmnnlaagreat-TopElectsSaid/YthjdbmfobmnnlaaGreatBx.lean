/-
  Bx: several texts in one.
-/
import Derived.Shelf.Sort.Plain
import Derived.Sort.OwnSortedInts
import Derived.Test.YthjdbmfobmnnlaaGreatProg
import Derived.Test.YthjdbmfobmnnlaaGreatBa
import Derived.Test.YthjdbmfobmnnlaaGreatBc
/-
  slices.Sort at slices of numbers: its contract, as the kit's shelf lays it.
-/
namespace Go.Proofs.YthjdbmfobmnnlaaGreat
open Go.Shelf Go.Sort Go.RowKit
def sortLays_ren : Go.Shelf.Ren := ⟨fun | 189 => 165 | 125 => 242 | 257 => 241 | 128 => 315 | 129 => 316 | 294 => 306 | 295 => 307 | 296 => 308 | 297 => 309 | 298 => 310 | 299 => 311 | 216 => 312 | 300 => 313 | 301 => 314 | 328 => 355 | 329 => 356 | 330 => 357 | 331 => 358 | 332 => 359 | 215 => 244 | 343 => 380 | n => n, fun | 28 => 101 | 3 => 3 | 46 => 215 | 0 => 0 | 51 => 100 | 53 => 396 | 4 => 4 | 183 => 390 | 182 => 389 | 131 => 76 | 5 => 5 | 9 => 9 | 218 => 429 | 222 => 433 | 228 => 452 | 229 => 32 | n => n, fun | n => n⟩
theorem sortLays : Go.Proofs.Lays.n189 Tryz.prog sortLays_ren := {
  mixed := by kernel_rfl
  f125 := Tryz.func242.trans (congrArg some (by kernel_rfl))
  f128 := Tryz.func315.trans (congrArg some (by kernel_rfl))
  f129 := Tryz.func316.trans (congrArg some (by kernel_rfl))
  f189 := Tryz.func165.trans (congrArg some (by kernel_rfl))
  f215 := Tryz.func244.trans (congrArg some (by kernel_rfl))
  f216 := Tryz.func312.trans (congrArg some (by kernel_rfl))
  f257 := Tryz.func241.trans (congrArg some (by kernel_rfl))
  f294 := Tryz.func306.trans (congrArg some (by kernel_rfl))
  f295 := Tryz.func307.trans (congrArg some (by kernel_rfl))
  f296 := Tryz.func308.trans (congrArg some (by kernel_rfl))
  f297 := Tryz.func309.trans (congrArg some (by kernel_rfl))
  f298 := Tryz.func310.trans (congrArg some (by kernel_rfl))
  f299 := Tryz.func311.trans (congrArg some (by kernel_rfl))
  f300 := Tryz.func313.trans (congrArg some (by kernel_rfl))
  f301 := Tryz.func314.trans (congrArg some (by kernel_rfl))
  f328 := Tryz.func355.trans (congrArg some (by kernel_rfl))
  f329 := Tryz.func356.trans (congrArg some (by kernel_rfl))
  f330 := Tryz.func357.trans (congrArg some (by kernel_rfl))
  f331 := Tryz.func358.trans (congrArg some (by kernel_rfl))
  f332 := Tryz.func359.trans (congrArg some (by kernel_rfl))
  f343 := Tryz.func380.trans (congrArg some (by kernel_rfl))
  t0 := Tryz.underlying0
  a0 := Tryz.isAgg0
  z0 := Tryz.sizeOf0
  v0 := Tryz.zeroValue0
  t3 := Tryz.underlying3
  a3 := Tryz.isAgg3
  z3 := Tryz.sizeOf3
  v3 := Tryz.zeroValue3
  t4 := Tryz.underlying4
  a4 := Tryz.isAgg4
  z4 := Tryz.sizeOf4
  v4 := Tryz.zeroValue4
  t5 := Tryz.underlying5
  a5 := Tryz.isAgg5
  z5 := Tryz.sizeOf5
  v5 := Tryz.zeroValue5
  t9 := Tryz.underlying9
  a9 := Tryz.isAgg9
  z9 := Tryz.sizeOf9
  v9 := Tryz.zeroValue9
  t28 := Tryz.underlying101
  a28 := Tryz.isAgg101
  z28 := Tryz.sizeOf101
  v28 := Tryz.zeroValue101
  t46 := Tryz.underlying215
  a46 := Tryz.isAgg215
  z46 := Tryz.sizeOf215
  v46 := Tryz.zeroValue215
  t51 := Tryz.underlying100
  a51 := Tryz.isAgg100
  z51 := Tryz.sizeOf100
  v51 := Tryz.zeroValue100
  t53 := Tryz.underlying396
  a53 := Tryz.isAgg396
  z53 := Tryz.sizeOf396
  v53 := Tryz.zeroValue396
  t131 := Tryz.underlying76
  a131 := Tryz.isAgg76
  z131 := Tryz.sizeOf76
  v131 := Tryz.zeroValue76
  t182 := Tryz.underlying389
  a182 := Tryz.isAgg389
  z182 := Tryz.sizeOf389
  v182 := Tryz.zeroValue389
  t183 := Tryz.underlying390
  a183 := Tryz.isAgg390
  z183 := Tryz.sizeOf390
  v183 := Tryz.zeroValue390
  t218 := Tryz.underlying429
  a218 := Tryz.isAgg429
  z218 := Tryz.sizeOf429
  v218 := Tryz.zeroValue429
  t222 := Tryz.underlying433
  a222 := Tryz.isAgg433
  z222 := Tryz.sizeOf433
  v222 := Tryz.zeroValue433
  t228 := Tryz.underlying452
  a228 := Tryz.isAgg452
  z228 := Tryz.sizeOf452
  v228 := Tryz.zeroValue452
  t229 := Tryz.underlying32
  a229 := Tryz.isAgg32
  z229 := Tryz.sizeOf32
  v229 := Tryz.zeroValue32 }

theorem sort_any (blk off cap : Nat) (zs : List Int) (w : World) (hH : Go.Sort.Holds (Value.int .i64) w blk off zs.toArray) (hblk : blk < w.heap.size) (hsz : zs.length < 4611686018427387904) :
    Calls Tryz.prog 165 #[.slice (some ⟨blk, off, none⟩) zs.length cap] w fun e w' =>
      e = .returned (.tuple #[]) ∧ ∃ n os, w' = grow (putRow (Value.int .i64) (Sort.ahead w n) blk off (zs.mergeSort fun x y => decide (x ≤ y)).toArray) os := Any.slices_Sort_int sortLays blk off cap zs w hH hblk hsz
end Go.Proofs.YthjdbmfobmnnlaaGreat

/-
  Layer 6: what more than half have.
-/
namespace Go.Proofs.YthjdbmfobmnnlaaGreat
open Go.RowKit
open Go.Sort
set_option linter.unusedVariables false
theorem intV_eq : intV = Value.int .i64 := rfl
/-- A row of the call's own, sorted. -/
theorem sortOwn_any (base : Nat) (a : Option Addr) (cap : Nat) (ns : List Int) (w : World) (hown : w.ownsRow base 3 1 (.slice a ns.length cap) ns.length (ns.map intV)) (h0 : 0 < ns.length) (hm : ns.length ≤ 1000000) :
    Calls Tryz.prog 165 #[.slice a ns.length cap] w fun e w' => e = .returned (.tuple #[]) ∧ w'.ownsRow base 3 1 (.slice a ns.length cap) ns.length ((sortI ns).map intV) ∧ Below base w w' := by
  rcases hown.2 with ⟨_, h⟩ | ⟨g, cap', cur, hv, hb, hh, hn, hc, hs, ht⟩
  · omega
  · injection hv with h1 h2 h3
    subst h1 h3
    have hlt : g < w.heap.size := blk_lt hh
    rw [Nat.mul_one] at ht
    refine (sort_any g 0 cap ns w (holds_of_blockI hh (by rw [ht]; rfl)) hlt (by omega)).mono ?_
    rintro e w' ⟨rfl, n, os, rfl⟩
    refine ⟨rfl, ownsRow_sortedI (ss := ns) (sortI_length ns) hb hh hn hc hs, ?_⟩
    exact (Below.refl base w).grown (grownBy_sortedI _) (by omega) (fun k hk => by cases hk; exact hb)
set_option maxHeartbeats 1600000 in
theorem cloneI_any (a : Option Addr) (cap : Nat) (ns : List Int) (w : World) (hr : CellsI w a ns) (hz : a = none → ns.length = 0) (hl : ns.length ≤ 1000000) :
    Calls Tryz.prog 147 #[.slice a ns.length cap] w (RetRow 3 1 ns.length (ns.map intV) w) := by
  rcases a with _ | ad
  · obtain rfl := List.eq_nil_of_length_eq_zero (hz rfl)
    have hnil : ∀ w, (binOp .eql 101 (.slice none 0 cap) (.slice none 0 0)).run Tryz.prog w = .ok (.bool true) w := fun w => Lib.run_eql_slice_nil (P := Tryz.prog) w 101 3 none 0 cap 0 0 Tryz.underlying101
    clear hz hr hl
    go_enter Tryz.func147, Tryz.ntmps147
    go_wp2
    go_ret
    exact ⟨none, 0, rfl, World.ownsRow_nil _ _ _ _, Below.refl _ _⟩
  · clear hz
    have hnil : ∀ w, (binOp .eql 101 (.slice (some ad) ns.length cap) (.slice none 0 0)).run Tryz.prog w = .ok (.bool false) w := fun w => Lib.run_eql_slice_nil (P := Tryz.prog) w 101 3 (some ad) ns.length cap 0 0 Tryz.underlying101
    go_enter Tryz.func147, Tryz.ntmps147
    go_wp2_with (at_builtin; refine wpList_append_row rfl (.tmp 5) (.tmp 6) rfl elemI w.heap.size _ 0 [] (by rfl) (World.ownsRow_lit w #[] 0 (Nat.le_refl _) (by unfold maxLen; omega) (by rfl)) _ _ _ (ns.map intV) (by rfl) (by simp) (RowAt.alloc hr _) (intV_one _) (by unfold maxLen; omega) (by omega) (by simp) (by simp) ?_; intro a' c' w1 hown hg hat)
    simp only [Nat.zero_add, List.nil_append] at hown ⊢
    have hbw : Below w.heap.size w w1 := Below.appended ((Below.refl _ _).alloc (Nat.le_refl _) _) (World.ownsRow_lit (e := 3) (size := 1) w #[] 0 (Nat.le_refl _) (by unfold maxLen; omega) (by rfl)) hg (by simp) (Nat.le_refl _)
    go_wp2
    go_ret
    exact ⟨a', c', rfl, hown, hbw⟩
set_option maxHeartbeats 1600000 in
theorem most_any (a : Option Addr) (cap : Nat) (ns : List Int) (w : World) (hr : CellsI w a ns) (hz : a = none → ns.length = 0) (hl : ns.length ≤ 1000000) :
    Calls Tryz.prog 245 #[.slice a ns.length cap] w fun e w' => e = .returned (.int .i64 (mostL ns)) ∧ Below w.heap.size w w' := by
  by_cases h0 : ns.length = 0
  · obtain rfl := List.eq_nil_of_length_eq_zero h0
    clear hr hz hl h0
    go_enter Tryz.func245, Tryz.ntmps245
    go_wp2
    go_ret
    exact ⟨rfl, Below.refl _ _⟩
  · have hp : 0 < ns.length := by omega
    have HC := Lib.hid (cloneI_any a cap ns w hr hz hl)
    have HS : Hid (∀ W base A c, W.ownsRow base 3 1 (.slice A ns.length c) ns.length (ns.map intV) → Calls Tryz.prog 165 #[.slice A ns.length c] W fun e w' => e = .returned (.tuple #[]) ∧ w'.ownsRow base 3 1 (.slice A ns.length c) ns.length ((sortI ns).map intV) ∧ Below base W w') := fun W base A c h => sortOwn_any base A c ns W h hp hl
    have hq : majN ns.length ≤ ns.length ∧ 0 < majN ns.length := by unfold majN; omega
    have HM : Hid (∀ W, Calls Tryz.prog 113 #[.int .i64 (ns.length : Int)] W fun e w' => e = .returned (.int .i64 (majN ns.length : Nat)) ∧ W = w') := fun W => by
      have := majority_any (ns.length : Int) (by omega) (by omega) W
      rw [if_neg (by omega)] at this
      unfold majN
      rwa [show ((ns.length / 2 + 1 : Nat) : Int) = (ns.length : Int) / 2 + 1 by omega]
    have hlen := sortI_length ns
    have HV : Hid (mostL ns = (sortI ns).getD (ns.length - majN ns.length) 0) := if_neg h0
    generalize majN ns.length = q at hq HM HV
    have hl0 : ((ns.length : Int) == 0) = false := by rw [beq_eq_false_iff_ne]; omega
    have hk0 : (0 : Int) ≤ (ns.length : Int) - (q : Int) := by omega
    have hk1 : (ns.length : Int) - (q : Int) < (ns.length : Int) := by omega
    have hk2 : ((ns.length : Int) - (q : Int)).toNat = ns.length - q := by omega
    have hql : ns.length - q < (sortI ns).length := by omega
    have HQ := Lib.hid hql
    clear hr hz h0 hlen hql
    generalize sortI ns = S at HS HV HQ
    go_enter Tryz.func245, Tryz.ntmps245
    go_wp2_with (first
      | (go_at_call 147; refine (HC.out).mono ?_; rintro e w1 ⟨a1, c1, rfl, own1, hb1⟩)
      | (go_at_call 165; refine (HS.out _ _ _ _ own1).mono ?_; rintro e w2 ⟨rfl, own2, hb2⟩; have hw2 := hb1.trans hb2; obtain ⟨g, off, rfl, hglt, hcell⟩ := CellsI.at (ns := S) (RowAt.of_own own2) HQ.out)
      | (go_at_call 113; refine (HM.out _).mono ?_; rintro e w3 ⟨rfl, rfl⟩))
    go_ret
    rw [HV.out]
    exact ⟨by rw [List.getD_eq_getElem?_getD, List.getElem?_eq_getElem HQ.out]; rfl, hw2⟩
end Go.Proofs.YthjdbmfobmnnlaaGreat

/-
  Layer 6: up to which index all is settled.
-/
namespace Go.Proofs.YthjdbmfobmnnlaaGreat
open Go.RowKit
set_option linter.unusedVariables false
/-- Up to which index all is settled, from a place of the log downwards. -/
def commitGo (B T : Int) (l : List En) (term settled : Int) : Nat → Int
  | 0 => if settled < B ∧ T = term then B else settled
  | k + 1 => if settled < B + ((k + 1 : Nat) : Int) then (if endT (l.take (k + 1)) T = term then B + ((k + 1 : Nat) : Int) else commitGo B T l term settled k) else settled
def commitAt (B T : Int) (l : List En) (term settled i : Int) : Int := if i < B then settled else commitGo B T l term settled (i - B).toNat
def commitF (b t : Int) (es : List En) (ms : List Int) (term settled : Int) : Int := commitAt (fairL b t es).1 (fairL b t es).2.1 (fairL b t es).2.2 term settled (min ((fairL b t es).1 + (fairL b t es).2.2.length) (mostL ms))
theorem commitAt_low {B T : Int} {l : List En} {term settled i : Int} (h : i < B) : commitAt B T l term settled i = settled := if_pos h
theorem commitAt_done {B T : Int} {l : List En} {term settled i : Int} (h : B ≤ i) (hs : i ≤ settled) : commitAt B T l term settled i = settled := by
  unfold commitAt
  rw [if_neg (by omega)]
  match hj : (i - B).toNat with
  | 0 => unfold commitGo; rw [if_neg (fun h => by omega)]
  | k + 1 => unfold commitGo; rw [if_neg (by omega)]
theorem commitAt_hit {B T : Int} {l : List En} {term settled i : Int} (h : B ≤ i) (hs : settled < i) (ht : endT (l.take (i - B).toNat) T = term) : commitAt B T l term settled i = i := by
  unfold commitAt
  rw [if_neg (by omega)]
  match hj : (i - B).toNat with
  | 0 =>
    rw [hj, List.take_zero, endT_nil] at ht
    unfold commitGo; rw [if_pos ⟨by omega, ht⟩]; omega
  | k + 1 =>
    rw [hj] at ht
    unfold commitGo; rw [if_pos (by omega), if_pos ht]; omega
theorem commitAt_next {B T : Int} {l : List En} {term settled i : Int} (h : B ≤ i) (hs : settled < i) (ht : endT (l.take (i - B).toNat) T ≠ term) : commitAt B T l term settled i = commitAt B T l term settled (i - 1) := by
  have h1 : commitAt B T l term settled i = commitGo B T l term settled (i - B).toNat := if_neg (by omega)
  rw [h1]
  match hj : (i - B).toNat with
  | 0 =>
    rw [hj, List.take_zero, endT_nil] at ht
    unfold commitGo
    rw [if_neg (fun h => ht h.2), commitAt_low (by omega)]
  | k + 1 =>
    rw [hj] at ht
    unfold commitAt
    rw [if_neg (by omega), show (i - 1 - B).toNat = k by omega]
    rw [commitGo, if_pos (by omega), if_neg ht]
/-- What holds each time that Commit comes to its label. -/
def ComInv (b t : Int) (a : Option Addr) (cap : Nat) (es : List En) (am : Option Addr) (cm : Nat) (ms : List Int) (term settled : Int) (B T : Int) (l : List En) (R : Int) (w : World) (a' : Act) (wr : World) : Prop :=
  ∃ (i : Int) (u : Nat → Value), -9223372036854775807 ≤ i + 1 ∧ i ≤ B + l.length ∧ commitAt B T l term settled i = R ∧ wr.heap[w.heap.size]? = some (.cells #[.int .i64 b, .int .i64 t, .slice a es.length cap] 37) ∧ Below w.heap.size w wr ∧ a' = { tmps := #[logV b t a es.length cap, .slice am ms.length cm, .int .i64 term, .int .i64 settled, .pointer (some ⟨w.heap.size, 0, none⟩), u 5, u 6, u 7, .int .i64 0, u 9, u 10, .int .i64 i, u 12, u 13, u 14, u 15, u 16, u 17, u 18, u 19, u 20, u 21, u 22, u 23, u 24, u 25, u 26, u 27, u 28, u 29, u 30, u 31, u 32, u 33, u 34, u 35, u 36, u 37, u 38, u 39, u 40, u 41], defers := [] }
theorem ComInv.mk {b t : Int} {a : Option Addr} {cap : Nat} {es : List En} {am : Option Addr} {cm : Nat} {ms : List Int} {term settled : Int} {B T : Int} {l : List En} {R : Int} {w : World} {a' : Act} {wr : World} {i : Int}
    (h0 : -9223372036854775807 ≤ i + 1) (h1 : i ≤ B + l.length) (h2 : commitAt B T l term settled i = R) (h3 : wr.heap[w.heap.size]? = some (.cells #[.int .i64 b, .int .i64 t, .slice a es.length cap] 37)) (h4 : Below w.heap.size w wr) (h5 : a' = { tmps := #[logV b t a es.length cap, .slice am ms.length cm, .int .i64 term, .int .i64 settled, .pointer (some ⟨w.heap.size, 0, none⟩), a'.tmps.getD 5 undef, a'.tmps.getD 6 undef, a'.tmps.getD 7 undef, .int .i64 0, a'.tmps.getD 9 undef, a'.tmps.getD 10 undef, .int .i64 i, a'.tmps.getD 12 undef, a'.tmps.getD 13 undef, a'.tmps.getD 14 undef, a'.tmps.getD 15 undef, a'.tmps.getD 16 undef, a'.tmps.getD 17 undef, a'.tmps.getD 18 undef, a'.tmps.getD 19 undef, a'.tmps.getD 20 undef, a'.tmps.getD 21 undef, a'.tmps.getD 22 undef, a'.tmps.getD 23 undef, a'.tmps.getD 24 undef, a'.tmps.getD 25 undef, a'.tmps.getD 26 undef, a'.tmps.getD 27 undef, a'.tmps.getD 28 undef, a'.tmps.getD 29 undef, a'.tmps.getD 30 undef, a'.tmps.getD 31 undef, a'.tmps.getD 32 undef, a'.tmps.getD 33 undef, a'.tmps.getD 34 undef, a'.tmps.getD 35 undef, a'.tmps.getD 36 undef, a'.tmps.getD 37 undef, a'.tmps.getD 38 undef, a'.tmps.getD 39 undef, a'.tmps.getD 40 undef, a'.tmps.getD 41 undef], defers := [] }) : ComInv b t a cap es am cm ms term settled B T l R w a' wr :=
  ⟨i, fun k => a'.tmps.getD k undef, h0, h1, h2, h3, h4, h5⟩
theorem mostL_wf {ns : List Int} (h : ∀ n ∈ ns, (Lit.int .i64 n).wf = true) : -9223372036854775808 ≤ mostL ns ∧ mostL ns ≤ 9223372036854775807 := by
  by_cases h0 : ns.length = 0
  · unfold mostL; rw [if_pos h0]; omega
  · have := h _ (most_spec h0).1
    simpa [Lit.wf, IntKind.min, IntKind.max, IntKind.bits, IntKind.signed] using this
set_option maxRecDepth 100000 in
set_option maxHeartbeats 6400000 in
theorem commit_any (b t : Int) (a : Option Addr) (cap : Nat) (es : List En) (am : Option Addr) (cm : Nat) (ms : List Int) (term settled : Int) (w : World) (hl : LogIn w a cap es) (hm : IntsIn w am cm ms) (hml : ms.length ≤ 1000000) :
    Calls Tryz.prog 176 #[logV b t a es.length cap, .slice am ms.length cm, .int .i64 term, .int .i64 settled] w fun e w' => e = .returned (.int .i64 (commitF b t es ms term settled)) ∧ Below w.heap.size w w' := by
  have HLa : Hid (∀ W, Below w.heap.size w W → Calls Tryz.prog 9 #[logV b t a es.length cap] W fun e w' => e = .returned (.tuple #[.int .i64 (lastF b t es).1, .int .i64 (lastF b t es).2]) ∧ Below W.heap.size W w') := fun W h => last_any b t a cap es W (hl.below h)
  have HTe : Hid (∀ W i, Below w.heap.size w W → Calls Tryz.prog 36 #[logV b t a es.length cap, .int .i64 i] W fun e w' => e = .returned (.tuple #[.int .i64 (termF b t es i).1, .bool (termF b t es i).2]) ∧ Below W.heap.size W w') := fun W i h => term_any b t a cap es i W (hl.below h)
  have HMo : Hid (∀ W, Below w.heap.size w W → Calls Tryz.prog 245 #[.slice am ms.length cm] W fun e w' => e = .returned (.int .i64 (mostL ms)) ∧ Below W.heap.size W w') := fun W h => most_any am cm ms W (hm.cells.below h) hm.none_ hml
  have hmw := mostL_wf hm.wf
  have hmay := fairL_may b t es
  clear hl hm hml
  unfold commitF
  unfold lastF at HLa
  unfold termF at HTe
  generalize mostL ms = M at HMo hmw ⊢
  generalize fairL b t es = F at HLa HTe hmay ⊢
  obtain ⟨B, T, l⟩ := F
  simp only at HLa HTe hmay ⊢
  obtain ⟨h1, h2, _, _, _, h6, hx⟩ := mayL_true hmay
  have h6' : (l.length : Int) ≤ 64 := by omega
  have HTi : Hid (∀ W i, Below w.heap.size w W → B ≤ i → i ≤ B + l.length → Calls Tryz.prog 36 #[logV b t a es.length cap, .int .i64 i] W fun e w' => e = .returned (.tuple #[.int .i64 (endT (l.take (i - B).toNat) T), .bool true]) ∧ Below W.heap.size W w') := fun W i h hb hi => by
    have := HTe.out W i h
    rwa [termL_at (b := B) (t := T) (es := l) (i := i) (i - B).toNat (by omega) (by omega)] at this
  have HTo : Hid (∀ W i, Below w.heap.size w W → i < B → Calls Tryz.prog 36 #[logV b t a es.length cap, .int .i64 i] W fun e w' => e = .returned (.tuple #[.int .i64 0, .bool false]) ∧ Below W.heap.size W w') := fun W i h hb => by
    have := HTe.out W i h
    rwa [termL_out (.inl hb)] at this
  clear hmay hx HTe
  generalize endT l T = LT at HLa
  obtain ⟨I, hI⟩ : ∃ I, min (B + (l.length : Int)) M = I := ⟨_, rfl⟩
  have hI1 : I ≤ B + l.length := by omega
  have hI2 : -9223372036854775807 ≤ I + 1 := by omega
  obtain ⟨R, hR⟩ : ∃ R, commitAt B T l term settled I = R := ⟨_, rfl⟩
  rw [hI, hR]
  have HI := Lib.hid hI
  have HR := Lib.hid hR
  clear hI hR
  go_enter Tryz.func176, Tryz.ntmps176
  go_wp2
  refine scope_loop 0 (ComInv b t a cap es am cm ms term settled B T l R w) (fun a' _ => match a'.tmps.getD 11 undef with | .int _ n => (n - B + 1).toNat | _ => 0) rfl ?_ ?_
  · rintro a' wr ⟨i, u, hi0, hi1, hiR, g0, hw0, rfl⟩
    have HiR := Lib.hid hiR
    clear hiR
    obtain ⟨hc0, hc1, hc2, hf0, hf1, hf2, hlt0⟩ := box3 g0
    by_cases hlow : i < B
    · have HRR : Hid (R = settled) := by rw [Hid, ← HiR.out, commitAt_low hlow]
      go_wp2_with (go_at_call 36; refine (HTo.out _ _ hw0 hlow).mono ?_; rintro e w1 ⟨rfl, hb1⟩)
      simp only [Exit.jump]
      go_ret
      rw [HRR.out]
      exact ⟨rfl, hw0.trans (hb1.mono hw0.size)⟩
    · have hBi : B ≤ i := by omega
      have HT := Lib.hid (HTi.out wr i hw0 hBi hi1)
      by_cases hs : settled < i
      · by_cases ht : endT (l.take (i - B).toNat) T = term
        · have HRR : Hid (R = i) := by rw [Hid, ← HiR.out, commitAt_hit hBi hs ht]
          rw [ht] at HT
          clear ht
          go_wp2_with (go_at_call 36; refine (HT.out).mono ?_; rintro e w1 ⟨rfl, hb1⟩)
          simp only [Exit.jump]
          go_ret
          rw [HRR.out]
          exact ⟨rfl, hw0.trans (hb1.mono hw0.size)⟩
        · have HRR : Hid (commitAt B T l term settled (i - 1) = R) := by rw [Hid, ← HiR.out, commitAt_next hBi hs ht]
          generalize endT (l.take (i - B).toNat) T = et at HT ht
          have ht1 : (et == term) = false := by rw [beq_eq_false_iff_ne]; exact ht
          clear ht
          go_wp2_with (go_at_call 36; refine (HT.out).mono ?_; rintro e w1 ⟨rfl, hb1⟩)
          refine wp_goto (And.intro rfl (And.intro (ComInv.mk (i := i - 1) (by omega) (by omega) HRR.out (blk_keep hb1 g0) (hw0.trans (hb1.mono hw0.size)) rfl) ?_))
          show (i - 1 - B + 1).toNat < (i - B + 1).toNat
          omega
      · have HRR : Hid (R = settled) := by rw [Hid, ← HiR.out, commitAt_done hBi (by omega)]
        generalize endT (l.take (i - B).toNat) T = et at HT
        go_wp2_with (go_at_call 36; refine (HT.out).mono ?_; rintro e w1 ⟨rfl, hb1⟩)
        simp only [Exit.jump]
        go_ret
        rw [HRR.out]
        exact ⟨rfl, hw0.trans (hb1.mono hw0.size)⟩
  · intro hp
    go_wp2_with (first
      | (go_at_call 9; refine (HLa.out _ (below1 _ _)).mono ?_; rintro e w1 ⟨rfl, hb1⟩; have hw0 := alloc_below hb1; have g0 := blk_keep hb1 (blk_new w _); obtain ⟨hc0, hc1, hc2, hf0, hf1, hf2, hlt0⟩ := box3 g0)
      | (go_at_call 245; refine (HMo.out _ hw0).mono ?_; rintro e w2 ⟨rfl, hb2⟩; replace hw0 := hw0.trans (hb2.mono hw0.size); replace g0 := blk_keep hb2 g0; obtain ⟨hc0, hc1, hc2, hf0, hf1, hf2, hlt0⟩ := box3 g0))
    go_step3
    refine (by assumption : ∀ (a : Act) (w : World), _ → _) _ _ (hp _ _ ?_)
    rw [HI.out]
    exact ComInv.mk (i := I) hI2 hI1 HR.out g0 hw0 rfl
end Go.Proofs.YthjdbmfobmnnlaaGreat
