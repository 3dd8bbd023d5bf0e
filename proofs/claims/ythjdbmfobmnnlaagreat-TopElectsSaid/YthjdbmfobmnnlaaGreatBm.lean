/-
  Bm: several texts in one.
-/
import Derived.Test.YthjdbmfobmnnlaaGreatBk
import Derived.Test.YthjdbmfobmnnlaaGreatBe
import Derived.Test.YthjdbmfobmnnlaaGreatBl
import Derived.Deep.QuietTactic
import Derived.BigQuiet
/-
  Layer 2: the reader: what it takes.
-/
namespace Go.Proofs.YthjdbmfobmnnlaaGreat
open Go.RowKit
set_option linter.unusedVariables false
/-- 'b[l:h:h]' of bytes. -/
theorem slice_three (a : Option Addr) (len cap l n : Nat) (hh : l + n ≤ cap) (w : World) :
    (Instr.slice 48 (.slice a len cap) (some (.int .i64 (l : Int))) (some (.int .i64 ((l : Int) + (n : Int)))) (some (.int .i64 ((l : Int) + (n : Int))))).run Tryz.prog w = .ok (.slice (cutA a (l + n) l) n n) w := by
  rw [run_slice_lhm (P := Tryz.prog) w 48 a len cap under_bytes .i64 .i64 .i64 (l : Int) ((l : Int) + (n : Int)) ((l : Int) + (n : Int)) (by omega) (by omega) (by omega) (by omega), elem_bytes, sizeOf_byte]
  have e : ((l : Int) + (n : Int)).toNat = l + n := by omega
  simp only [Result.andThen, sliced, Int.toNat_natCast, cutA, e, Nat.add_sub_cancel_left]
theorem CellsB.three {w : World} {a : Option Addr} {bs : List UInt8} (h : CellsB w a bs) (p n : Nat) : CellsB w (cutA a (p + n) p) ((bs.drop p).take n) := by
  have := (h.take (p + n)).cut (p + n) p (by rw [List.length_take]; omega)
  rwa [List.drop_take, Nat.add_sub_cancel_left] at this
/-- The reader's three cells. -/
abbrev rdC (a : Option Addr) (len cap : Nat) (p e : Int) : Obj := .cells #[.slice a len cap, .int .i64 p, .int .i64 e] 436
set_option maxHeartbeats 3200000 in
theorem take_bad (R : Nat) (a : Option Addr) (len cap : Nat) (p e n : Int) (he : e ≠ 0) (w : World) (g : w.heap[R]? = some (rdC a len cap p e)) :
    Calls Tryz.prog 362 #[.pointer (some ⟨R, 0, none⟩), .int .i64 n] w fun en w' => en = .returned (.slice none 0 0) ∧ ∃ k, w' = w.drewN k := by
  obtain ⟨hc0, hc1, hc2, hf0, hf1, hf2, hlt⟩ := box3 g
  have he1 : (e != 0) = true := by simpa using he
  have he2 : (e == 0) = false := by simpa using he
  go_enter Tryz.func362, Tryz.ntmps362
  go_wp2
  go_quiet (fail)
  go_wp2
  go_ret
  exact ⟨rfl, _, rfl⟩
set_option maxHeartbeats 3200000 in
theorem take_more (R : Nat) (a : Option Addr) (len cap p n : Nat) (hl : len < p + n) (hlm : len ≤ 1000000) (hpm : p ≤ 1000000) (w : World) (g : w.heap[R]? = some (rdC a len cap p 0)) :
    Calls Tryz.prog 362 #[.pointer (some ⟨R, 0, none⟩), .int .i64 n] w fun en w' => en = .returned (.slice none 0 0) ∧ w'.heap[R]? = some (rdC a len cap p 3) ∧ Only R w w' := by
  obtain ⟨hc0, hc1, hc2, hf0, hf1, hf2, hlt⟩ := box3 g
  have b1 : -9223372036854775808 ≤ (len : Int) - (p : Int) ∧ (len : Int) - (p : Int) ≤ 9223372036854775807 := by omega
  have hd : (len : Int) - (p : Int) < (n : Int) := by omega
  have hw1 := wrap_id b1.1 b1.2
  clear b1
  have g2 := fun k => blk_set (w := w.drewN k) (i := 2) (blk_many g k) (.int .i64 3)
  clear hl hlm hpm
  go_enter Tryz.func362, Tryz.ntmps362
  go_wp2
  go_quiet (fail)
  go_wp2
  go_ret
  exact ⟨rfl, g2 _, ((Only.refl _ _).many _).setCell 2 _⟩
set_option maxHeartbeats 3200000 in
theorem take_ok (R : Nat) (a : Option Addr) (len cap p n : Nat) (hl : p + n ≤ len) (hlm : len ≤ 1000000) (hcap : len ≤ cap) (w : World) (g : w.heap[R]? = some (rdC a len cap p 0)) :
    Calls Tryz.prog 362 #[.pointer (some ⟨R, 0, none⟩), .int .i64 n] w fun en w' => en = .returned (.slice (cutA a (p + n) p) n n) ∧ w'.heap[R]? = some (rdC a len cap ((p + n : Nat) : Int) 0) ∧ Only R w w' := by
  obtain ⟨hc0, hc1, hc2, hf0, hf1, hf2, hlt⟩ := box3 g
  have hd : decide ((len : Int) - (p : Int) < (n : Int)) = false := decide_eq_false (by omega)
  have hs : ∀ W, (Instr.slice 48 (.slice a len cap) (some (.int .i64 (p : Int))) (some (.int .i64 ((p : Int) + (n : Int)))) (some (.int .i64 ((p : Int) + (n : Int))))).run Tryz.prog W = .ok (.slice (cutA a (p + n) p) n n) W := fun W => slice_three a len cap p n (by omega) W
  have b1 : -9223372036854775808 ≤ (len : Int) - (p : Int) ∧ (len : Int) - (p : Int) ≤ 9223372036854775807 := by omega
  have b2 : -9223372036854775808 ≤ (p : Int) + (n : Int) ∧ (p : Int) + (n : Int) ≤ 9223372036854775807 := by omega
  have b3 : -9223372036854775808 ≤ (p : Int) ∧ (p : Int) ≤ 9223372036854775807 := by omega
  have hw1 := wrap_id b1.1 b1.2
  have hw2 := wrap_id b2.1 b2.2
  have hw5 := wrap_id b3.1 b3.2
  have hw4 := wrap64_id b2.1 b2.2
  clear b1 b2 b3
  have g2 := fun k j => blk_many (blk_set (w := w.drewN k) (i := 1) (blk_many g k) (.int .i64 ((p : Int) + (n : Int)))) j
  clear hl hlm hcap
  go_enter Tryz.func362, Tryz.ntmps362
  go_wp2
  go_quiet (fail)
  go_wp2
  generalize hW : (w.drewN nq).setCell { block := R, off := 1 } (Value.int IntKind.i64 ((p : Int) + (n : Int))) = W
  have gW : W.heap[R]? = some (rdC a len cap ((p + n : Nat) : Int) 0) := by rw [← hW]; simpa using g2 nq 0
  have oW : Only R w W := by rw [← hW]; exact ((Only.refl _ _).many _).setCell 1 _
  clear hW g2 g hc0 hc1 hc2 hf0 hf1 hf2
  obtain ⟨hc0, hc1, hc2, hf0, hf1, hf2, hlt'⟩ := box3 gW
  rw [Int.natCast_add] at hc1
  go_region_held3 (fun W => W.cell? ⟨R, 0, none⟩ = some (.slice a len cap) ∧ W.cell? ⟨R, 1, none⟩ = some (.int .i64 ((p : Int) + (n : Int))) ∧ (Instr.slice 48 (.slice a len cap) (some (.int .i64 (p : Int))) (some (.int .i64 ((p : Int) + (n : Int)))) (some (.int .i64 ((p : Int) + (n : Int))))).run Tryz.prog W = .ok (.slice (cutA a (p + n) p) n n) W) (exact ⟨hc0, hc1, hs _⟩) (fail)
  go_wp2
  go_ret
  exact ⟨rfl, gW, oW.many 1⟩
end Go.Proofs.YthjdbmfobmnnlaaGreat

/-
  Layer 2: the reader: a number, a field.
-/
namespace Go.Proofs.YthjdbmfobmnnlaaGreat
open Go.RowKit
set_option linter.unusedVariables false
theorem or_byte {v c : Nat} (hv : v < 281474976710656) (hc : c < 2 ^ 8) : bits .or .i64 ((v : Int) * 256) (c : Int) = ((v * 256 + c : Nat) : Int) := by
  have e8 : (2 : Int) ^ 8 = 256 := by decide
  have e63 : (2 : Int) ^ 63 = 9223372036854775808 := by decide
  rw [bits_join .i64 63 (by decide) (fun n h0 h1 => wrap_id (by omega) (by rw [e63] at h1; omega)) 8 _ _ (by omega) (by rw [e8]; omega) (by rw [e63]; omega) (by omega) (by rw [e8]; omega) (by rw [e63]; omega)]
  omega
set_option maxHeartbeats 3200000 in
theorem number_bad (R : Nat) (a : Option Addr) (len cap : Nat) (p e n : Int) (he : e ≠ 0) (w : World) (g : w.heap[R]? = some (rdC a len cap p e)) :
    Calls Tryz.prog 360 #[.pointer (some ⟨R, 0, none⟩), .int .i64 n] w fun en w' => en = .returned (.int .i64 0) ∧ w'.heap[R]? = some (rdC a len cap p e) ∧ Only R w w' := by
  have HT := Lib.hid (take_bad R a len cap p e n he w g)
  have HG := Lib.hid g
  clear g he
  go_enter Tryz.func360, Tryz.ntmps360
  go_wp2_with (go_at_call 362; refine (HT.out).mono ?_; rintro e w1 ⟨rfl, k, rfl⟩)
  go_loop [5, 12] (fun v i => v = .int .i64 0 ∧ i = .int .i64 0) (fun _ _ => 0)
  case atStart => exact ⟨rfl, rfl⟩
  case round =>
    obtain ⟨rfl, rfl⟩ := hrel
    go_wp2
    go_ret
    exact ⟨rfl, HG.out, (Only.refl _ _).many _⟩
set_option maxHeartbeats 3200000 in
theorem number_more (R : Nat) (a : Option Addr) (len cap p n : Nat) (hl : len < p + n) (hlm : len ≤ 1000000) (hpm : p ≤ 1000000) (w : World) (g : w.heap[R]? = some (rdC a len cap p 0)) :
    Calls Tryz.prog 360 #[.pointer (some ⟨R, 0, none⟩), .int .i64 n] w fun en w' => en = .returned (.int .i64 0) ∧ w'.heap[R]? = some (rdC a len cap p 3) ∧ Only R w w' := by
  have HT := Lib.hid (take_more R a len cap p n hl hlm hpm w g)
  clear g hl hlm hpm
  go_enter Tryz.func360, Tryz.ntmps360
  go_wp2_with (go_at_call 362; refine (HT.out).mono ?_; rintro e w1 ⟨rfl, g1, o1⟩)
  go_loop [5, 12] (fun v i => v = .int .i64 0 ∧ i = .int .i64 0) (fun _ _ => 0)
  case atStart => exact ⟨rfl, rfl⟩
  case round =>
    obtain ⟨rfl, rfl⟩ := hrel
    go_wp2
    go_ret
    exact ⟨rfl, g1, o1⟩
set_option maxHeartbeats 3200000 in
theorem number_ok (R : Nat) (a : Option Addr) (bs : List UInt8) (cap p n : Nat) (hl : p + n ≤ bs.length) (h7 : n ≤ 7) (hlm : bs.length ≤ 1000000) (hcap : bs.length ≤ cap) (w0 w : World) (hb : CellsB w0 a bs) (h0 : Below w0.heap.size w0 w) (hR : w0.heap.size ≤ R) (g : w.heap[R]? = some (rdC a bs.length cap p 0)) :
    Calls Tryz.prog 360 #[.pointer (some ⟨R, 0, none⟩), .int .i64 n] w fun en w' => en = .returned (.int .i64 (valB ((bs.drop p).take n))) ∧ w'.heap[R]? = some (rdC a bs.length cap ((p + n : Nat) : Int) 0) ∧ Only R w w' := by
  have HT := Lib.hid (take_ok R a bs.length cap p n hl hlm hcap w g)
  have HB := Lib.hid (hb.three p n)
  have HL : Hid (((bs.drop p).take n).length = n) := by rw [Hid, List.length_take, List.length_drop]; omega
  clear g hl hlm hcap hb
  generalize cutA a (p + n) p = A at HT HB
  generalize (bs.drop p).take n = X at HB HL ⊢
  have HV : Hid (∀ k, k < n → valB (X.take (k + 1)) = valB (X.take k) * 256 + (X.getD k 0).toNat ∧ valB (X.take k) < 281474976710656) := fun k hk => by
    have hkl : k < X.length := by rw [HL.out]; exact hk
    refine ⟨by rw [List.take_add_one, List.getElem?_eq_getElem hkl, Option.toList_some, valB_snoc, List.getD_eq_getElem?_getD, List.getElem?_eq_getElem hkl]; rfl, ?_⟩
    have h1 := valB_lt (X.take k)
    have h2 := Nat.pow_le_pow_right (show 0 < 256 by decide) (show (X.take k).length ≤ 6 by rw [List.length_take]; omega)
    exact Nat.lt_of_lt_of_le h1 h2
  go_enter Tryz.func360, Tryz.ntmps360
  go_wp2_with (go_at_call 362; refine (HT.out).mono ?_; rintro e w1 ⟨rfl, g1, o1⟩)
  have HG1 := Lib.hid g1
  clear g1
  go_loop [5, 12] (fun v i => ∃ k : Nat, k ≤ n ∧ i = .int .i64 k ∧ v = .int .i64 (valB (X.take k))) (fun _ i => n - (intOf i).toNat)
  case atStart => exact ⟨0, by omega, rfl, rfl⟩
  case round =>
    obtain ⟨k, hk, rfl, rfl⟩ := hrel
    by_cases hlt : k < n
    · obtain ⟨b, off, rfl, hblt, hcell⟩ := (HB.out.below (o1.below h0 hR h0.size)).at (k := k) (by rw [HL.out]; exact hlt)
      obtain ⟨hv1, hv2⟩ := HV.out k hlt
      have hc := (X.getD k 0).toNat_lt
      have HV1 := Lib.hid hv1
      clear hv1
      generalize (X.getD k 0).toNat = c at hcell HV1 hc
      generalize valB (X.take k) = v at HV1 hv2
      go_wp2
      go_round
      case rel => exact ⟨k + 1, by omega, by go_num, by rw [or_byte hv2 hc, HV1.out]⟩
      case measure => simp [intOf]; omega
    · have hkn : k = n := by omega
      have HX : Hid (X.take k = X) := by rw [Hid]; exact List.take_of_length_le (by rw [HL.out]; omega)
      subst hkn
      go_wp2
      go_ret
      rw [HX.out]
      exact ⟨rfl, HG1.out, o1⟩
theorem getD_drop {bs : List UInt8} (p k : Nat) : (bs.drop p).getD k 0 = bs.getD (p + k) 0 := by simp [List.getD_eq_getElem?_getD]
theorem valB_one {bs : List UInt8} {p : Nat} (h : p < bs.length) : valB ((bs.drop p).take 1) = (bs.getD p 0).toNat := by
  rw [List.drop_eq_getElem_cons h, List.take_succ_cons, List.take_zero]
  simp [valB, List.getD_eq_getElem?_getD, List.getElem?_eq_getElem h]
/-- What a field answers. -/
def RetField (R : Nat) (a : Option Addr) (len cap p : Nat) (r : Int × Nat × Nat) (w : World) (en : Ending) (w' : World) : Prop :=
  en = .returned (.int .i64 r.2.1) ∧ (∃ q : Nat, w'.heap[R]? = some (rdC a len cap q r.1) ∧ q ≤ len ∧ (r.1 = 0 → q = p + r.2.2)) ∧ Only R w w'
set_option maxHeartbeats 12800000 in
/-- A field at a place where none has failed yet. -/
theorem field_any (R : Nat) (a : Option Addr) (bs : List UInt8) (cap p : Nat) (hp : p ≤ bs.length) (hlm : bs.length ≤ 1000000) (hcap : bs.length ≤ cap) (w0 w : World) (hb : CellsB w0 a bs) (h0 : Below w0.heap.size w0 w) (hR : w0.heap.size ≤ R) (g : w.heap[R]? = some (rdC a bs.length cap p 0)) :
    Calls Tryz.prog 361 #[.pointer (some ⟨R, 0, none⟩)] w (RetField R a bs.length cap p (numP (bs.drop p)) w) := by
  have hnp : numP (bs.drop p) = numP (bs.drop p) := rfl
  rw (config := { occs := .pos [2] }) [numP] at hnp
  rw [List.length_drop, getD_drop, getD_drop, List.drop_drop, Nat.add_zero] at hnp
  by_cases c0 : bs.length < p + 1
  · rw [if_pos (by omega)] at hnp
    rw [hnp]
    have HN : Hid (Calls Tryz.prog 360 #[.pointer (some ⟨R, 0, none⟩), .int .i64 1] w fun en w' => en = .returned (.int .i64 0) ∧ w'.heap[R]? = some (rdC a bs.length cap p 3) ∧ Only R w w') := number_more R a bs.length cap p 1 c0 hlm (by omega) w g
    have HB : Hid (∀ W, W.heap[R]? = some (rdC a bs.length cap p 3) → Calls Tryz.prog 360 #[.pointer (some ⟨R, 0, none⟩), .int .i64 0] W fun en w' => en = .returned (.int .i64 0) ∧ w'.heap[R]? = some (rdC a bs.length cap p 3) ∧ Only R W w') := fun W g => number_bad R a bs.length cap p 3 0 (by decide) W g
    have hq := hp
    clear g c0 hp hlm hcap hb hnp
    go_enter Tryz.func361, Tryz.ntmps361
    go_wp2_with (go_at_call 360; refine (HN.out).mono ?_; rintro e w1 ⟨rfl, g1, o1⟩; obtain ⟨hc0, hc1, hc2, hf0, hf1, hf2, hlt⟩ := box3 g1)
    go_quiet (fail)
    go_wp2_with (go_at_call 360; refine (HB.out _ (blk_many g1 _)).mono ?_; rintro e w3 ⟨rfl, g3, o3⟩)
    go_ret
    exact ⟨rfl, ⟨p, g3, hq, fun h => by cases h⟩, (o1.many _).trans o3⟩
  have c0' : p < bs.length := by omega
  have HN : Hid (Calls Tryz.prog 360 #[.pointer (some ⟨R, 0, none⟩), .int .i64 1] w fun en w' => en = .returned (.int .i64 ((bs.getD p 0).toNat : Nat)) ∧ w'.heap[R]? = some (rdC a bs.length cap ((p + 1 : Nat) : Int) 0) ∧ Only R w w') := by
    have := number_ok R a bs cap p 1 (by omega) (by omega) hlm hcap w0 w hb h0 hR g
    rw [valB_one c0'] at this
    exact this
  rw [if_neg (by omega)] at hnp
  have hc256 := (bs.getD p 0).toNat_lt
  generalize (bs.getD p 0).toNat = c at HN hnp hc256
  have HBad : Hid (∀ W (q : Int), W.heap[R]? = some (rdC a bs.length cap q 2) → Calls Tryz.prog 360 #[.pointer (some ⟨R, 0, none⟩), .int .i64 (c : Int)] W fun en w' => en = .returned (.int .i64 0) ∧ w'.heap[R]? = some (rdC a bs.length cap q 2) ∧ Only R W w') := fun W q g => number_bad R a bs.length cap q 2 c (by decide) W g
  by_cases c7 : 7 < c
  · rw [if_pos c7] at hnp
    rw [hnp]
    have c7' : (7 : Int) < (c : Int) := by omega
    clear g c0 hp hlm hcap hb hnp
    go_enter Tryz.func361, Tryz.ntmps361
    go_wp2_with (go_at_call 360; refine (HN.out).mono ?_; rintro e w1 ⟨rfl, g1, o1⟩; obtain ⟨hc0, hc1, hc2, hf0, hf1, hf2, hlt⟩ := box3 g1)
    go_quiet (fail)
    go_wp2_with (go_at_call 360; refine (HBad.out _ _ (blk_many (blk_set g1 _) _)).mono ?_; rintro e w3 ⟨rfl, g3, o3⟩)
    go_ret
    exact ⟨rfl, ⟨p + 1, g3, c0', fun h => by cases h⟩, ((o1.setCell 2 _).many _).trans o3⟩
  rw [if_neg c7] at hnp
  have c7' : (c : Int) ≤ 7 := by omega
  by_cases cf : 0 < c ∧ p + 1 < bs.length ∧ bs.getD (p + 1) 0 = 0
  · rw [if_pos ⟨cf.1, by omega, cf.2.2⟩] at hnp
    rw [hnp]
    have c1 : (0 : Int) < (c : Int) := by omega
    have cl : (p : Int) + 1 < (bs.length : Int) := by omega
    have cl0 : (0 : Int) ≤ (p : Int) + 1 := by omega
    have cl1 : ((p : Int) + 1).toNat = p + 1 := by omega
    obtain ⟨b, off, rfl, hblt, hcell⟩ := hb.at (k := p + 1) cf.2.1
    rw [cf.2.2] at hcell
    have h00 : ((0 : UInt8).toNat : Int) = 0 := rfl
    rw [h00] at hcell
    have hl1 := cf.2.1
    have cN := cf.1
    clear g c0 hp hlm hcap hb hnp cf c7 h00
    go_enter Tryz.func361, Tryz.ntmps361
    go_wp2_with (go_at_call 360; refine (HN.out).mono ?_; rintro e w1 ⟨rfl, g1, o1⟩; obtain ⟨hc0, hc1, hc2, hf0, hf1, hf2, hlt⟩ := box3 g1)
    have hcell1 := ((bcell (o1.below h0 hR h0.size)).1 b (off + (p + 1)) hblt).trans hcell
    go_quiet (fail)
    go_wp2_with (go_at_call 360; refine (HBad.out _ _ (blk_set (blk_many g1 _) _)).mono ?_; rintro e w3 ⟨rfl, g3, o3⟩)
    go_ret
    exact ⟨rfl, ⟨p + 1, g3, c0', fun h => by cases h⟩, ((o1.many _).setCell 2 _).trans o3⟩
  rw [if_neg (fun h => cf ⟨h.1, by omega, h.2.2⟩)] at hnp
  have e1 : ((p + 1 : Nat) : Int) = (p : Int) + 1 := by omega
  by_cases cm : bs.length < p + 1 + c
  · rw [if_pos (by omega)] at hnp
    rw [hnp]
    have HMo : Hid (∀ W, W.heap[R]? = some (rdC a bs.length cap ((p : Int) + 1) 0) → Calls Tryz.prog 360 #[.pointer (some ⟨R, 0, none⟩), .int .i64 (c : Int)] W fun en w' => en = .returned (.int .i64 0) ∧ w'.heap[R]? = some (rdC a bs.length cap ((p + 1 : Nat) : Int) 3) ∧ Only R W w') := fun W g => number_more R a bs.length cap (p + 1) c cm hlm (by omega) W (by rw [e1]; exact g)
    have cN : 0 < c := by omega
    have hq : p + 1 ≤ bs.length := c0'
    clear e1
    by_cases cl : p + 1 < bs.length
    · obtain ⟨b, off, rfl, hblt, hcell⟩ := hb.at (k := p + 1) cl
      have hy : (bs.getD (p + 1) 0).toNat ≠ 0 := fun h => cf ⟨cN, cl, UInt8.toNat_inj.1 h⟩
      generalize (bs.getD (p + 1) 0).toNat = y at hcell hy
      have hy1 : ((y : Int) == 0) = false := by simpa using hy
      have cl' : (p : Int) + 1 < (bs.length : Int) := by omega
      have cl0 : (0 : Int) ≤ (p : Int) + 1 := by omega
      have cl1 : ((p : Int) + 1).toNat = p + 1 := by omega
      have c1 : (0 : Int) < (c : Int) := by omega
      clear g c0 hp hlm hcap hb hnp cf c7 cm cl hy
      go_enter Tryz.func361, Tryz.ntmps361
      go_wp2_with (go_at_call 360; refine (HN.out).mono ?_; rintro e w1 ⟨rfl, g1, o1⟩; obtain ⟨hc0, hc1, hc2, hf0, hf1, hf2, hlt⟩ := box3 g1)
      have hcell1 := ((bcell (o1.below h0 hR h0.size)).1 b (off + (p + 1)) hblt).trans hcell
      go_quiet (fail)
      go_wp2_with (go_at_call 360; refine (HMo.out _ (blk_many g1 _)).mono ?_; rintro e w3 ⟨rfl, g3, o3⟩)
      go_ret
      exact ⟨rfl, ⟨p + 1, g3, hq, fun h => by cases h⟩, (o1.many _).trans o3⟩
    · have hnl : decide ((p : Int) + 1 < (bs.length : Int)) = false := decide_eq_false (by omega)
      have c1 : (0 : Int) < (c : Int) := by omega
      clear g c0 hp hlm hcap hb hnp cf c7 cm cl
      go_enter Tryz.func361, Tryz.ntmps361
      go_wp2_with (go_at_call 360; refine (HN.out).mono ?_; rintro e w1 ⟨rfl, g1, o1⟩; obtain ⟨hc0, hc1, hc2, hf0, hf1, hf2, hlt⟩ := box3 g1)
      go_quiet (fail)
      go_wp2_with (go_at_call 360; refine (HMo.out _ (blk_many g1 _)).mono ?_; rintro e w3 ⟨rfl, g3, o3⟩)
      go_ret
      exact ⟨rfl, ⟨p + 1, g3, hq, fun h => by cases h⟩, (o1.many _).trans o3⟩
  rw [if_neg (by omega)] at hnp
  rw [hnp]
  have hq : p + 1 + c ≤ bs.length := by omega
  by_cases cN : 0 < c
  · have HOk : Hid (∀ W, Below w0.heap.size w0 W → W.heap[R]? = some (rdC a bs.length cap ((p : Int) + 1) 0) → Calls Tryz.prog 360 #[.pointer (some ⟨R, 0, none⟩), .int .i64 (c : Int)] W fun en w' => en = .returned (.int .i64 (valB ((bs.drop (p + 1)).take c) : Nat)) ∧ w'.heap[R]? = some (rdC a bs.length cap ((p + 1 + c : Nat) : Int) 0) ∧ Only R W w') := fun W h g => number_ok R a bs cap (p + 1) c hq (by omega) hlm hcap w0 W hb h hR (by rw [e1]; exact g)
    have cl : p + 1 < bs.length := by omega
    clear e1
    obtain ⟨b, off, rfl, hblt, hcell⟩ := hb.at (k := p + 1) cl
    have hy : (bs.getD (p + 1) 0).toNat ≠ 0 := fun h => cf ⟨cN, cl, UInt8.toNat_inj.1 h⟩
    generalize (bs.getD (p + 1) 0).toNat = y at hcell hy
    have hy1 : ((y : Int) == 0) = false := by simpa using hy
    have cl' : (p : Int) + 1 < (bs.length : Int) := by omega
    have cl0 : (0 : Int) ≤ (p : Int) + 1 := by omega
    have cl1 : ((p : Int) + 1).toNat = p + 1 := by omega
    have c1 : (0 : Int) < (c : Int) := by omega
    clear g c0 hp hlm hcap hb hnp cf c7 cm cl hy
    go_enter Tryz.func361, Tryz.ntmps361
    go_wp2_with (go_at_call 360; refine (HN.out).mono ?_; rintro e w1 ⟨rfl, g1, o1⟩; obtain ⟨hc0, hc1, hc2, hf0, hf1, hf2, hlt⟩ := box3 g1)
    have hcell1 := ((bcell (o1.below h0 hR h0.size)).1 b (off + (p + 1)) hblt).trans hcell
    go_quiet (fail)
    go_wp2_with (go_at_call 360; refine (HOk.out _ ((o1.many _).below h0 hR h0.size) (blk_many g1 _)).mono ?_; rintro e w3 ⟨rfl, g3, o3⟩)
    go_ret
    exact ⟨rfl, ⟨p + 1 + c, g3, hq, fun _ => by show _ = p + (1 + _); omega⟩, (o1.many _).trans o3⟩
  · obtain rfl : c = 0 := by omega
    have HOk : Hid (∀ W, Below w0.heap.size w0 W → W.heap[R]? = some (rdC a bs.length cap ((p : Int) + 1) 0) → Calls Tryz.prog 360 #[.pointer (some ⟨R, 0, none⟩), .int .i64 0] W fun en w' => en = .returned (.int .i64 (valB ((bs.drop (p + 1)).take 0) : Nat)) ∧ w'.heap[R]? = some (rdC a bs.length cap ((p + 1 + 0 : Nat) : Int) 0) ∧ Only R W w') := fun W h g => number_ok R a bs cap (p + 1) 0 hq (by omega) hlm hcap w0 W hb h hR (by rw [e1]; exact g)
    replace HN : Hid (Calls Tryz.prog 360 #[.pointer (some ⟨R, 0, none⟩), .int .i64 1] w fun en w' => en = .returned (.int .i64 0) ∧ w'.heap[R]? = some (rdC a bs.length cap ((p : Int) + 1) 0) ∧ Only R w w') := HN
    clear g c0 hp hlm hcap hb hnp cf c7 cm e1 cN hc256 c7'
    go_enter Tryz.func361, Tryz.ntmps361
    go_wp2_with (go_at_call 360; refine (HN.out).mono ?_; rintro e w1 ⟨rfl, g1, o1⟩; obtain ⟨hc0, hc1, hc2, hf0, hf1, hf2, hlt⟩ := box3 g1)
    go_quiet (fail)
    go_wp2_with (go_at_call 360; refine (HOk.out _ ((o1.many _).below h0 hR h0.size) (blk_many g1 _)).mono ?_; rintro e w3 ⟨rfl, g3, o3⟩)
    go_ret
    exact ⟨rfl, ⟨p + 1 + 0, g3, hq, fun _ => by show p + 1 + 0 = p + 1; rfl⟩, (o1.many _).trans o3⟩
end Go.Proofs.YthjdbmfobmnnlaaGreat
