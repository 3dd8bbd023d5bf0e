/-
  Bo: several texts in one.
-/
import Derived.Test.YthjdbmfobmnnlaaGreatBj
import Derived.Lib.SlBytesConst
import Derived.Test.YthjdbmfobmnnlaaGreatBl
import Derived.Test.YthjdbmfobmnnlaaGreatBb
import Derived.Test.YthjdbmfobmnnlaaGreatBk
import Derived.Test.YthjdbmfobmnnlaaGreatBa
import Derived.Test.YthjdbmfobmnnlaaGreatBn
import Derived.Deep.QuietTactic
import Derived.BigQuiet
/-
  The contracts of layer 1's functions, fourth part: the document's opening.
-/
namespace Go.Proofs.YthjdbmfobmnnlaaGreat
open Go.RowKit

theorem RowAt.marked (w : World) (cs : Array Value) (t : TypeId) (fr : Nat × Nat) : RowAt (w.alloc (.cells cs t fr)) (some ⟨w.heap.size, 0, none⟩) cs.toList := by
  refine .inr ⟨w.heap.size, 0, rfl, by simp, fun i u hi => ?_⟩
  rw [Nat.zero_add, cell_of_row _ _ _ cs t fr (heap_alloc_new w _)]
  simpa using hi
attribute [local go_sem ↓] Go.wp_at_zero Go.wp_at_succ
end Go.Proofs.YthjdbmfobmnnlaaGreat

/-
  The contracts of layer 3's functions: what is put, how long what is got is.
-/
namespace Go.Proofs.YthjdbmfobmnnlaaGreat
open Go.RowKit

theorem put_parts {f : Fr} (h : putE f = 0) : (headOf f.1.toNat f.2.length).map byteV = [.int .u8 83, .int .u8 f.1, .int .u8 ((f.2.length : Int) / 256), .int .u8 ((f.2.length : Int) % 256)] := by
  have hp := putE_zero h
  show [byteV 83, byteV (b8 f.1.toNat), byteV (b8 (f.2.length / 256)), byteV (b8 (f.2.length % 256))] = _
  unfold byteV
  rw [b8_toNat _ (by omega), b8_toNat _ (by omega), b8_toNat _ (by omega)]
  have e1 : ((f.1.toNat : Nat) : Int) = f.1 := by omega
  rw [e1]
  rfl
set_option maxHeartbeats 1600000 in
theorem put_any (k : Int) (a : Option Addr) (cap : Nat) (bs : List UInt8) (w : World) (hb : CellsB w a bs) (hz : a = none → bs.length = 0) :
    Calls Tryz.prog 183 #[.agg #[.int .i64 k, .slice a bs.length cap]] w (RetRowE 5 1 (putB (k, bs)).length ((putB (k, bs)).map byteV) (putE (k, bs)) w) := by
  have HZ := Lib.hid hz
  clear hz
  by_cases h1 : k < 0
  · have he : Hid (putE (k, bs) = 1 ∧ putB (k, bs) = []) := by
      have : putE (k, bs) = 1 := by unfold putE; rw [if_pos (.inl h1)]
      exact ⟨this, putB_none (by omega)⟩
    clear hb
    go_enter Tryz.func183, Tryz.ntmps183
    go_wp2
    go_ret2
    rw [he.out.1, he.out.2]
    exact ⟨none, 0, rfl, World.ownsRow_nil _ _ _ _, (Below.refl _ _).alloc (Nat.le_refl _) _⟩
  · by_cases h2 : 255 < k
    · have he : Hid (putE (k, bs) = 1 ∧ putB (k, bs) = []) := by
        have : putE (k, bs) = 1 := by unfold putE; rw [if_pos (.inr h2)]
        exact ⟨this, putB_none (by omega)⟩
      clear hb
      go_enter Tryz.func183, Tryz.ntmps183
      go_wp2
      go_ret2
      rw [he.out.1, he.out.2]
      exact ⟨none, 0, rfl, World.ownsRow_nil _ _ _ _, (Below.refl _ _).alloc (Nat.le_refl _) _⟩
    · by_cases h3 : (4096 : Int) < (bs.length : Int)
      · have he : Hid (putE (k, bs) = 7 ∧ putB (k, bs) = []) := by
          have : putE (k, bs) = 7 := by unfold putE; rw [if_neg (by omega), if_pos (by show 4096 < bs.length; omega)]
          exact ⟨this, putB_none (by omega)⟩
        clear hb
        go_enter Tryz.func183, Tryz.ntmps183
        go_wp2
        go_ret2
        rw [he.out.1, he.out.2]
        exact ⟨none, 0, rfl, World.ownsRow_nil _ _ _ _, (Below.refl _ _).alloc (Nat.le_refl _) _⟩
      · have h0 : putE (k, bs) = 0 := by unfold putE; rw [if_neg (by omega), if_neg (by show ¬ 4096 < bs.length; omega)]
        have he : Hid (putE (k, bs) = 0 ∧ putB (k, bs) = sealed (headOf k.toNat bs.length ++ bs)) := ⟨h0, putB_eq h0⟩
        have hp := Lib.hid (put_parts h0)
        have hl : Hid ((headOf k.toNat bs.length ++ bs).length = 4 + bs.length) := by rw [Hid, List.length_append, headOf_length]
        have hs : Hid (∀ W A c, CellsB W A (headOf k.toNat bs.length ++ bs) → (A = none → 4 + bs.length = 0) → Calls Tryz.prog 248 #[.slice A (4 + bs.length) c] W (RetRow 5 1 (putB (k, bs)).length ((putB (k, bs)).map byteV) W)) := fun W A c h hz => by
          have := sealB_any A c (headOf k.toNat bs.length ++ bs) W h (by rw [hl.out]; exact hz) (by rw [hl.out]; omega)
          rw [he.out.2, sealed_length]
          rwa [hl.out] at this ⊢
        have hown0 := own_lit1 (w := w) (base := w.heap.size) (e := 5) (size := 1) (.cells #[.int .i64 k, .slice a bs.length cap] 262) #[.int .u8 83, .int .u8 k, .int .u8 ((bs.length : Int) / 256), .int .u8 ((bs.length : Int) % 256)] 4 (by omega) (by unfold maxLen; omega) rfl
        clear h0
        go_enter Tryz.func183, Tryz.ntmps183
        go_wp2_with (first
          | (at_builtin; refine wpList_append_row rfl (.tmp 32) (.tmp 34) rfl elemB w.heap.size (.slice (some ⟨w.heap.size + 1, 0, none⟩) 4 4) 4 ((headOf k.toNat bs.length).map byteV) (by rfl) (by rw [hp.out]; exact hown0) a bs.length cap (bs.map byteV) (by rfl) (by simp) ((RowAt.alloc hb _).alloc _) (byteV_one _) (by unfold maxLen; omega) (by omega) (by simp; omega) HZ.out ?_; intro a1 c1 w1 hown1 hg1 hat1; have hb1 : Below w.heap.size w w1 := Below.appended (((Below.refl _ _).alloc (Nat.le_refl _) _).alloc (by simp) _) hown0 hg1 (by simp; omega) (Nat.le_refl _); rw [← List.map_append] at hown1; clear hat1 hg1)
          | (go_at_call 248; refine (hs.out _ a1 c1 (RowAt.of_own hown1) (own_none hown1)).mono ?_; rintro e w2 ⟨a2, c2, rfl, hown2, hb2⟩))
        go_ret2
        rw [he.out.1]
        exact ⟨a2, c2, rfl, own_base hown2 hb1.size, bt hb1 hb2⟩
theorem ret_two_int {a b c : Int} (h : a = b) : Ending.returned (.tuple #[.int .i64 a, .int .i64 c]) = .returned (.tuple #[.int .i64 b, .int .i64 c]) := by rw [h]
theorem or_form (a b : Nat) (ha : a < 256) (hb : b < 256) : bits .or .i64 ((a : Int) * 256) (b : Int) = ((a * 256 + b : Nat) : Int) := by
  have hk : ∀ n : Int, 0 ≤ n → n < 2 ^ 62 → IntKind.i64.wrap n = n := fun n h0 h1 => by rw [IntKind.wrap_i64]; omega
  have := bits_join .i64 62 (by decide) hk 8 ((a : Int) * 256) (b : Int) (by omega) (by omega) (by omega) (by omega) (by omega) (by omega)
  rw [this]; omega
theorem CellsB.pick {w : World} {a : Option Addr} {bs : List UInt8} (h : CellsB w a bs) {b off : Nat} (ha : a = some ⟨b, off, none⟩) {k : Nat} (hk : k < bs.length) : w.cell? ⟨b, off + k, none⟩ = some (.int .u8 ((bs.getD k 0).toNat : Int)) := by
  obtain ⟨b', off', ha', _, hc⟩ := h.at hk
  rw [ha] at ha'
  cases ha'
  exact hc
set_option maxHeartbeats 1600000 in
theorem size_any (a : Option Addr) (cap : Nat) (bs : List UInt8) (w : World) (hb : CellsB w a bs) (hl : bs.length ≤ 900000) :
    Calls Tryz.prog 249 #[.slice a bs.length cap] w fun e w' => e = .returned (.tuple #[.int .i64 (sizeN bs), .int .i64 (sizeE bs)]) ∧ Below w.heap.size w w' := by
  by_cases h0 : bs.length = 0
  · have he : Hid (sizeE bs = 3 ∧ sizeN bs = 0) := by
      have : sizeE bs = 3 := by unfold sizeE; rw [if_pos h0]
      exact ⟨this, by unfold sizeN; rw [if_neg (by omega)]⟩
    have ht : ((bs.length : Int) == 0) = true := by simp [h0]
    clear hb h0
    go_enter Tryz.func249, Tryz.ntmps249
    go_wp2
    go_ret2
    rw [he.out.1, he.out.2]
    exact ⟨rfl, Below.refl _ _⟩
  · have ht : ((bs.length : Int) == 0) = false := beq_eq_false_iff_ne.2 (by omega)
    have hp : 0 < bs.length := by omega
    obtain ⟨b, off, rfl, hbl, hc0⟩ := hb.at hp
    have hc0' : w.cell? ⟨b, off, none⟩ = some (.int .u8 ((bs.getD 0 0).toNat : Int)) := hc0
    clear hc0
    by_cases h1 : (bs.getD 0 0).toNat = 83
    · by_cases h4 : bs.length < 4
      · have he : Hid (sizeE bs = 3 ∧ sizeN bs = 0) := by
          have : sizeE bs = 3 := by unfold sizeE; rw [if_neg h0, if_neg (fun h => h h1), if_pos h4]
          exact ⟨this, by unfold sizeN; rw [if_neg (by omega)]⟩
        have ht1 : (((bs.getD 0 0).toNat : Int) != 83) = false := by rw [h1]; rfl
        have h4i : (bs.length : Int) < 4 := by omega
        clear hb h1
        generalize (bs.getD 0 0).toNat = B0 at hc0' ht1
        go_enter Tryz.func249, Tryz.ntmps249
        go_wp2
        go_ret2
        rw [he.out.1, he.out.2]
        exact ⟨rfl, Below.refl _ _⟩
      · have hc2 := hb.pick rfl (k := 2) (by omega)
        have hc3 := hb.pick rfl (k := 3) (by omega)
        have HN : Hid (lenOf bs = (bs.getD 2 0).toNat * 256 + (bs.getD 3 0).toNat) := rfl
        have hl2 := (bs.getD 2 0).toNat_lt
        have hl3 := (bs.getD 3 0).toNat_lt
        have ht1 : (((bs.getD 0 0).toNat : Int) != 83) = false := by rw [h1]; rfl
        have h4i : (4 : Int) ≤ (bs.length : Int) := by omega
        have hi2 : (2 : Int) < (bs.length : Int) := by omega
        have hi3 : (3 : Int) < (bs.length : Int) := by omega
        have hE : Hid (sizeE bs = if 4096 < lenOf bs then 7 else if bs.length < lenOf bs + 8 then 3 else 0) := by
          unfold sizeE; rw [Hid, if_neg h0, if_neg (fun h => h h1), if_neg h4]
        clear h1 hb
        generalize (bs.getD 0 0).toNat = B0 at hc0' ht1
        generalize (bs.getD 2 0).toNat = B2 at hc2 HN hl2
        generalize (bs.getD 3 0).toNat = B3 at hc3 HN hl3
        have hor := or_form B2 B3 hl2 hl3
        rw [← HN.out] at hor
        have hL : lenOf bs < 65536 := by rw [HN.out]; omega
        have hN : Hid (sizeN bs = if sizeE bs = 0 then lenOf bs + 8 else 0) := rfl
        clear HN
        generalize lenOf bs = L at hor hL hE hN
        by_cases h5 : (4096 : Int) < (L : Int)
        · have he : Hid (sizeE bs = 7 ∧ sizeN bs = 0) := by
            have : sizeE bs = 7 := by rw [hE.out, if_pos (by omega)]
            exact ⟨this, by rw [hN.out, if_neg (by omega)]⟩
          go_enter Tryz.func249, Tryz.ntmps249
          go_wp2
          go_quiet (fail)
          go_wp2
          go_ret2
          rw [he.out.1, he.out.2]
          exact ⟨rfl, below_drewN (Below.refl _ _) _⟩
        · by_cases h6 : (bs.length : Int) < (L : Int) + 8
          · have he : Hid (sizeE bs = 3 ∧ sizeN bs = 0) := by
              have : sizeE bs = 3 := by rw [hE.out, if_neg (by omega), if_pos (by omega)]
              exact ⟨this, by rw [hN.out, if_neg (by omega)]⟩
            go_enter Tryz.func249, Tryz.ntmps249
            go_wp2
            go_quiet (fail)
            go_wp2
            go_ret2
            rw [he.out.1, he.out.2]
            exact ⟨rfl, below_drewN (Below.refl _ _) _⟩
          · have he : Hid (sizeE bs = 0 ∧ sizeN bs = L + 8) := by
              have : sizeE bs = 0 := by rw [hE.out, if_neg (by omega), if_neg (by omega)]
              exact ⟨this, by rw [hN.out, if_pos this]⟩
            go_enter Tryz.func249, Tryz.ntmps249
            go_wp2
            go_quiet (fail)
            go_wp2
            go_ret2
            rw [he.out.1, he.out.2]
            exact ⟨ret_two_int (by omega), below_drewN (Below.refl _ _) _⟩
    · have he : Hid (sizeE bs = 2 ∧ sizeN bs = 0) := by
        have : sizeE bs = 2 := by unfold sizeE; rw [if_neg h0, if_pos h1]
        exact ⟨this, by unfold sizeN; rw [if_neg (by omega)]⟩
      have ht1 : (((bs.getD 0 0).toNat : Int) != 83) = true := by
        simp only [bne_iff_ne, ne_eq]; omega
      clear hb h1
      generalize (bs.getD 0 0).toNat = B0 at hc0' ht1
      go_enter Tryz.func249, Tryz.ntmps249
      go_wp2
      go_ret2
      rw [he.out.1, he.out.2]
      exact ⟨rfl, Below.refl _ _⟩
end Go.Proofs.YthjdbmfobmnnlaaGreat

/-
  A record behind bytes.
-/
namespace Go.Proofs.YthjdbmfobmnnlaaGreat
open Go.RowKit
set_option linter.unusedVariables false
/-- Bytes of the call's own. -/
def RetOn (base : Nat) (ys : List UInt8) (w : World) (en : Ending) (w' : World) : Prop := ∃ D c, en = .returned (.slice D ys.length c) ∧ w'.ownsRow base 5 1 (.slice D ys.length c) ys.length (ys.map byteV) ∧ Below base w w'
/-- A record's bytes as they are put. -/
def recP (k : Int) (ns : List Int) : List UInt8 := putB (k, packB (ns, []))
theorem recP_le (k : Int) (ns : List Int) : (recP k ns).length ≤ 4104 := by
  unfold recP
  by_cases h : putE (k, packB (ns, [])) = 0
  · rw [putB_length h]; have := (putE_zero h).2.2; simp only at this ⊢; omega
  · rw [putB_none h]; simp
theorem recP_eq {k : Int} {ns : List Int} (h : RecOk k ns) : recP k ns = recB k ns := by
  unfold recP recB
  rw [packB_eq (rec_pack h.2.2.1 h.2.2.2)]
set_option maxRecDepth 100000 in
set_option maxHeartbeats 3200000 in
theorem record_any (base : Nat) (D : Option Addr) (cD : Nat) (bs : List UInt8) (k : Int) (a : Option Addr) (c : Nat) (ns : List Int) (w : World)
    (hown : w.ownsRow base 5 1 (.slice D bs.length cD) bs.length (bs.map byteV)) (hbs : base ≤ w.heap.size) (hi : IntsIn w a c ns) (hl : bs.length ≤ 1000000) :
    Calls Tryz.prog 123 #[.slice D bs.length cD, .int .i64 k, .slice a ns.length c] w (RetOn base (bs ++ recP k ns) w) := by
  have HP : Hid (Calls Tryz.prog 182 #[.agg #[.slice a ns.length c, .slice none 0 0]] w (RetRowE 5 1 (packB (ns, [])).length ((packB (ns, [])).map byteV) (packE (ns, [])) w)) := fpack_any a c ns none 0 [] w hi .nil (fun _ => rfl)
  have HQ : Hid (∀ W a2 c2, W.ownsRow w.heap.size 5 1 (.slice a2 (packB (ns, [])).length c2) (packB (ns, [])).length ((packB (ns, [])).map byteV) → Calls Tryz.prog 183 #[.agg #[.int .i64 k, .slice a2 (packB (ns, [])).length c2]] W (RetRowE 5 1 (recP k ns).length ((recP k ns).map byteV) (putE (k, packB (ns, []))) W)) := fun W a2 c2 h => put_any k a2 c2 (packB (ns, [])) W (RowAt.of_own h) (own_none h)
  have hrl := recP_le k ns
  clear hi
  generalize putE (k, packB (ns, [])) = pe at HQ
  generalize packB (ns, []) = P at HP HQ
  generalize packE (ns, []) = qe at HP
  generalize recP k ns = Z at HQ hrl ⊢
  have hzl : (bs ++ Z).length = bs.length + Z.length := List.length_append
  have HZL := Lib.hid hzl
  clear hzl
  go_enter Tryz.func123, Tryz.ntmps123
  go_wp2_with (first
    | (go_at_call 182; refine HP.out.mono ?_; rintro en w1 ⟨a1, c1, rfl, own1, hb1⟩)
    | (go_at_call 183; refine (HQ.out _ a1 c1 own1).mono ?_; rintro en w2 ⟨a2, c2, rfl, own2, hb2⟩; have hb := hb1.trans (hb2.mono hb1.size); have hownD := own_below hown hb; have hsz := hb.size)
    | (at_builtin; refine wpList_append_row rfl (.tmp 24) (.tmp 25) rfl elemB base (.slice D bs.length cD) bs.length (bs.map byteV) (by rfl) hownD a2 Z.length c2 (Z.map byteV) (by rfl) (by rw [List.length_map, Nat.mul_one]) (RowAt.of_own own2) (byteV_one _) (by unfold maxLen; omega) (by omega) (Nat.le_trans hbs hsz) (own_none own2) ?_; intro a3 c3 w3 hown3 hg3 hat3; have hb3 : Below base w w3 := Below.appended (hb.mono hbs) hownD hg3 (Nat.le_trans hbs hsz) (Nat.le_refl _)))
  go_ret
  refine ⟨a3, c3, ?_, ?_, hb3⟩
  · rw [HZL.out]; rfl
  · rw [HZL.out, List.map_append]; exact hown3
end Go.Proofs.YthjdbmfobmnnlaaGreat

/-
  A step takes an entry in.
-/
namespace Go.Proofs.YthjdbmfobmnnlaaGreat
open Go.RowKit
set_option linter.unusedVariables false
set_option maxRecDepth 100000 in
set_option maxHeartbeats 12800000 in
theorem vstep_ent (R base F : Nat) (s : St) (x0 x1 x2 x3 x4 x5 x6 x7 : Int) (d : Option Addr) (cd : Nat) (body : List UInt8) (w : World) (hs : StAt w R base s) (hRb : R < base) (hFR : F ≤ R) (hbs : base ≤ w.heap.size) (hok : StOk s)
    (hd : CellsB w d body) (hcap : body.length ≤ cd) (hz : d = none → body.length = 0) (hlm : body.length ≤ 1000000)
    (hun : unpackP body = (0, [x0, x1, x2, x3, x4, x5, x6, x7], [])) (hx0 : x0 = (s.2.2.length : Int) + 1) :
    Calls Tryz.prog 185 #[.pointer (some ⟨R, 0, none⟩), .agg #[.int .i64 2, .slice d body.length cd]] w (RetStep R base F s (if mayL 0 0 (s.2.2 ++ [((x1, x2, x3, x4, x5, x6, x7) : En)]) = true then some (s.1, s.2.1, s.2.2 ++ [((x1, x2, x3, x4, x5, x6, x7) : En)]) else none) w) := by
  have HU : Hid (∀ W, Below w.heap.size w W → Calls Tryz.prog 251 #[.slice d body.length cd] W (RetUn (unpackP body) W)) := fun W h => unpack_any d cd body W (hd.below h) hcap hz hlm
  have hF : F ≤ w.heap.size := by omega
  obtain ⟨t0, v0, es⟩ := s
  obtain ⟨A, cap, g, hown⟩ := hs
  simp only at g hown hx0
  have h64 := (mayL_true hok.2).2.2.2.2.2.1
  simp only at h64
  have h64' : (es.length : Int) ≤ 64 := by omega
  simp only
  rw [hun] at HU
  clear hd hcap hz hlm hun
  have hx0' : (x0 == (es.length : Int) + 1) = true := by rw [hx0]; simp
  clear hx0
  have hel : (es ++ [((x1, x2, x3, x4, x5, x6, x7) : En)]).length = es.length + 1 := by simp
  have HEL := Lib.hid hel
  have HM : Hid (∀ W a c, LogIn W a c (es ++ [((x1, x2, x3, x4, x5, x6, x7) : En)]) → Calls Tryz.prog 79 #[.agg #[.int .i64 0, .int .i64 0, .slice a (es.length + 1) c]] W fun e w' => e = .returned (.bool (mayL 0 0 (es ++ [((x1, x2, x3, x4, x5, x6, x7) : En)]))) ∧ Below W.heap.size W w') := fun W a c h => by
    have := may_any 0 0 a c (es ++ [((x1, x2, x3, x4, x5, x6, x7) : En)]) W h
    rwa [hel] at this
  have HIN : Hid (∀ (W : World) a c, W.ownsRow base 82 7 (.slice a (es.length + 1) c) (es.length + 1) (ensV es ++ ensV [((x1, x2, x3, x4, x5, x6, x7) : En)]) → LogIn W a c (es ++ [((x1, x2, x3, x4, x5, x6, x7) : En)])) := fun W a c h => by
    rw [← ensV_append, ← hel] at h
    exact LogIn.of_own h
  have HAP := Lib.hid (ensV_append es [((x1, x2, x3, x4, x5, x6, x7) : En)])
  clear hel
  have hwr := wrap_id (x := (es.length : Int) + 1) (by omega) (by omega)
  cases hmv : mayL 0 0 (es ++ [((x1, x2, x3, x4, x5, x6, x7) : En)]) with
  | false =>
    rw [hmv] at HM
    rw [if_neg (by decide)]
    clear hmv
    go_enter Tryz.func185, Tryz.ntmps185
    go_wp2_with (go_at_call 251; refine (HU.out _ (below1 _ _)).mono ?_; rintro en w1 ⟨a1, c1, a2, c2, rfl, oi, ob, hb1⟩; have hb1' : Below w.heap.size w w1 := alloc_below hb1; have hal := below1 w1 (.cells #[.slice a1 8 c1, .slice a2 0 c2] 259); have hbw := hb1'.trans (hal.mono hb1'.size); have gR := blk_keep hbw g; have ownR := own_below hown hbw; have gB := blk_alloc (blk_keep hb1 (blk_new w (.cells #[.int .i64 2, .slice d body.length cd] 262))) (.cells #[.slice a1 8 c1, .slice a2 0 c2] 259); have gX := blk_new w1 (.cells #[.slice a1 8 c1, .slice a2 0 c2] 259); have hci := RowAt.below (RowAt.of_own oi) hal; obtain ⟨rc0, rc1, rc2, rf0, rf1, rf2, rlt⟩ := box3 gR; obtain ⟨bc0, bc1, bf0, bf1, blt⟩ := box2 gB; obtain ⟨xc0, xc1, xf0, xf1, xlt⟩ := box2 gX; have hbF := hbw.mono hF)
    obtain ⟨nb, noff, ha0, hnlt, nc0⟩ := CellsI.at hci (k := 0) (by simp)
    subst ha0
    obtain ⟨_, _, ha1, _, nc1⟩ := CellsI.at hci (k := 1) (by simp)
    cases ha1
    obtain ⟨_, _, ha1, _, nc2⟩ := CellsI.at hci (k := 2) (by simp)
    cases ha1
    obtain ⟨_, _, ha1, _, nc3⟩ := CellsI.at hci (k := 3) (by simp)
    cases ha1
    obtain ⟨_, _, ha1, _, nc4⟩ := CellsI.at hci (k := 4) (by simp)
    cases ha1
    obtain ⟨_, _, ha1, _, nc5⟩ := CellsI.at hci (k := 5) (by simp)
    cases ha1
    obtain ⟨_, _, ha1, _, nc6⟩ := CellsI.at hci (k := 6) (by simp)
    cases ha1
    obtain ⟨_, _, ha1, _, nc7⟩ := CellsI.at hci (k := 7) (by simp)
    cases ha1
    rw [Nat.add_zero] at nc0
    simp only [List.getElem_cons_zero, List.getElem_cons_succ] at nc0 nc1 nc2 nc3 nc4 nc5 nc6 nc7
    have hnb : w.heap.size ≤ nb := Nat.le_trans (below1 w (.cells #[.int .i64 2, .slice d body.length cd] 262)).size (own_from oi (by simp) nb noff rfl)
    go_quiet (fail)
    clear hwr
    go_wp2
    have nk1 : ((w1.alloc (.cells #[.slice (some ⟨nb, noff, none⟩) ([x0, x1, x2, x3, x4, x5, x6, x7] : List Int).length c1, .slice a2 ([] : List UInt8).length c2] 259)).drewN nq).cell? ⟨nb, noff + 1, none⟩ = some (.int .i64 x1) := nc1
    have nk2 : ((w1.alloc (.cells #[.slice (some ⟨nb, noff, none⟩) ([x0, x1, x2, x3, x4, x5, x6, x7] : List Int).length c1, .slice a2 ([] : List UInt8).length c2] 259)).drewN nq).cell? ⟨nb, noff + 2, none⟩ = some (.int .i64 x2) := nc2
    have nk3 : ((w1.alloc (.cells #[.slice (some ⟨nb, noff, none⟩) ([x0, x1, x2, x3, x4, x5, x6, x7] : List Int).length c1, .slice a2 ([] : List UInt8).length c2] 259)).drewN nq).cell? ⟨nb, noff + 3, none⟩ = some (.int .i64 x3) := nc3
    have nk4 : ((w1.alloc (.cells #[.slice (some ⟨nb, noff, none⟩) ([x0, x1, x2, x3, x4, x5, x6, x7] : List Int).length c1, .slice a2 ([] : List UInt8).length c2] 259)).drewN nq).cell? ⟨nb, noff + 4, none⟩ = some (.int .i64 x4) := nc4
    have nk5 : ((w1.alloc (.cells #[.slice (some ⟨nb, noff, none⟩) ([x0, x1, x2, x3, x4, x5, x6, x7] : List Int).length c1, .slice a2 ([] : List UInt8).length c2] 259)).drewN nq).cell? ⟨nb, noff + 5, none⟩ = some (.int .i64 x5) := nc5
    have nk6 : ((w1.alloc (.cells #[.slice (some ⟨nb, noff, none⟩) ([x0, x1, x2, x3, x4, x5, x6, x7] : List Int).length c1, .slice a2 ([] : List UInt8).length c2] 259)).drewN nq).cell? ⟨nb, noff + 6, none⟩ = some (.int .i64 x6) := nc6
    have nk7 : ((w1.alloc (.cells #[.slice (some ⟨nb, noff, none⟩) ([x0, x1, x2, x3, x4, x5, x6, x7] : List Int).length c1, .slice a2 ([] : List UInt8).length c2] 259)).drewN nq).cell? ⟨nb, noff + 7, none⟩ = some (.int .i64 x7) := nc7
    have gRW : ((w1.alloc (.cells #[.slice (some ⟨nb, noff, none⟩) ([x0, x1, x2, x3, x4, x5, x6, x7] : List Int).length c1, .slice a2 ([] : List UInt8).length c2] 259)).drewN nq).heap[R]? = some (.cells #[.int .i64 t0, .int .i64 v0, .slice A es.length cap] 116) := gR
    have ownW : ((w1.alloc (.cells #[.slice (some ⟨nb, noff, none⟩) ([x0, x1, x2, x3, x4, x5, x6, x7] : List Int).length c1, .slice a2 ([] : List UInt8).length c2] 259)).drewN nq).ownsRow base 82 7 (.slice A es.length cap) es.length (ensV es) := ownR
    have hWF : Below F w ((w1.alloc (.cells #[.slice (some ⟨nb, noff, none⟩) ([x0, x1, x2, x3, x4, x5, x6, x7] : List Int).length c1, .slice a2 ([] : List UInt8).length c2] 259)).drewN nq) := Below.many hbF nq
    have hwW : Below w.heap.size w ((w1.alloc (.cells #[.slice (some ⟨nb, noff, none⟩) ([x0, x1, x2, x3, x4, x5, x6, x7] : List Int).length c1, .slice a2 ([] : List UInt8).length c2] 259)).drewN nq) := Below.many hbw nq
    have hnl : nb < ((w1.alloc (.cells #[.slice (some ⟨nb, noff, none⟩) ([x0, x1, x2, x3, x4, x5, x6, x7] : List Int).length c1, .slice a2 ([] : List UInt8).length c2] 259)).drewN nq).heap.size := hnlt
    have hbW : base ≤ ((w1.alloc (.cells #[.slice (some ⟨nb, noff, none⟩) ([x0, x1, x2, x3, x4, x5, x6, x7] : List Int).length c1, .slice a2 ([] : List UInt8).length c2] 259)).drewN nq).heap.size := Nat.le_trans hbs hbw.size
    clear nc0 nc1 nc2 nc3 nc4 nc5 nc6 nc7 gR ownR hbF gX gB hci rc0 rc1 rc2 rf0 rf1 rf2 rlt bc0 bc1 bf0 bf1 blt xc0 xc1 xf0 xf1 xlt hal hbw
    generalize ((w1.alloc (.cells #[.slice (some ⟨nb, noff, none⟩) ([x0, x1, x2, x3, x4, x5, x6, x7] : List Int).length c1, .slice a2 ([] : List UInt8).length c2] 259)).drewN nq) = W at *
    obtain ⟨rc0, rc1, rc2, rf0, rf1, rf2, rlt⟩ := box3 gRW
    have hRow : RowAt (W.drew.alloc (.cells #[.int .i64 x1, .int .i64 x2, .int .i64 x3, .int .i64 x4, .int .i64 x5, .int .i64 x6, .int .i64 x7] 82)) (some ⟨W.heap.size, 0, none⟩) (ensV [((x1, x2, x3, x4, x5, x6, x7) : En)]) := RowAt.new W.drew #[.int .i64 x1, .int .i64 x2, .int .i64 x3, .int .i64 x4, .int .i64 x5, .int .i64 x6, .int .i64 x7] 82
    have hAB : Below W.heap.size W (W.drew.alloc (.cells #[.int .i64 x1, .int .i64 x2, .int .i64 x3, .int .i64 x4, .int .i64 x5, .int .i64 x6, .int .i64 x7] 82)) := (below0 W).drew.alloc (below0 W).drew.size (.cells #[.int .i64 x1, .int .i64 x2, .int .i64 x3, .int .i64 x4, .int .i64 x5, .int .i64 x6, .int .i64 x7] 82)
    obtain ⟨jc0, jc1, jc2, _, _, _, _⟩ := box3 (blk_keep hAB gRW)
    have hnA : (Value.slice A es.length cap).ownBlock ≠ some nb := fun e => by have := (hown.lt _ e).2; omega
    have hAs := hAB.size
    go_region_held3 (fun Z => Z.cell? ⟨R, 2, none⟩ = some (.slice A es.length cap) ∧ Z.cell? ⟨nb, noff + 1, none⟩ = some (.int .i64 x1) ∧ Z.cell? ⟨nb, noff + 2, none⟩ = some (.int .i64 x2) ∧ Z.cell? ⟨nb, noff + 3, none⟩ = some (.int .i64 x3) ∧ Z.cell? ⟨nb, noff + 4, none⟩ = some (.int .i64 x4) ∧ Z.cell? ⟨nb, noff + 5, none⟩ = some (.int .i64 x5) ∧ Z.cell? ⟨nb, noff + 6, none⟩ = some (.int .i64 x6) ∧ Z.cell? ⟨nb, noff + 7, none⟩ = some (.int .i64 x7)) (first | exact ⟨rc2, nk1, nk2, nk3, nk4, nk5, nk6, nk7⟩ | exact ⟨kc2, nl1, nl2, nl3, nl4, nl5, nl6, nl7⟩ | go_keep) ((refine step_append_row2 rfl (.tmp 73) (.tmp 97) rfl elemE base (.slice A es.length cap) es.length (ensV es) (by rfl) (own_below ownW hAB) ⟨W.heap.size, 0, none⟩ 1 1 (ensV [((x1, x2, x3, x4, x5, x6, x7) : En)]) (by rfl) (ensV_length _) hRow (ensV_one _) (by decide) (by unfold maxLen; omega) (by omega) (Nat.le_trans hbW hAs) ?_; intro a3 c3 w3 hown3 hg3 own3; have hne : ∀ j, j < base → (Value.slice A es.length cap).ownBlock ≠ some j := (fun j hj e => by have := (ownW.lt _ e).1; omega); have gR3 := blk_grown hg3 (blk_keep hAB gRW) (hne _ hRb); have hw3 : Below F w w3 := Below.appended (hWF.trans (hAB.mono (Nat.le_trans hF (hwW.size)))) (own_below ownW hAB) hg3 (Nat.le_trans hF (Nat.le_trans hwW.size hAs)) (by omega); have nl1 : w3.cell? ⟨nb, noff + 1, none⟩ = some (.int .i64 x1) := (World.grownBy.cell_far hg3 ⟨nb, noff + 1, none⟩ (Nat.lt_of_lt_of_le hnl hAs) hnA.symm).trans (((bcell hAB).1 _ _ hnl).trans nk1); have nl2 : w3.cell? ⟨nb, noff + 2, none⟩ = some (.int .i64 x2) := (World.grownBy.cell_far hg3 ⟨nb, noff + 2, none⟩ (Nat.lt_of_lt_of_le hnl hAs) hnA.symm).trans (((bcell hAB).1 _ _ hnl).trans nk2); have nl3 : w3.cell? ⟨nb, noff + 3, none⟩ = some (.int .i64 x3) := (World.grownBy.cell_far hg3 ⟨nb, noff + 3, none⟩ (Nat.lt_of_lt_of_le hnl hAs) hnA.symm).trans (((bcell hAB).1 _ _ hnl).trans nk3); have nl4 : w3.cell? ⟨nb, noff + 4, none⟩ = some (.int .i64 x4) := (World.grownBy.cell_far hg3 ⟨nb, noff + 4, none⟩ (Nat.lt_of_lt_of_le hnl hAs) hnA.symm).trans (((bcell hAB).1 _ _ hnl).trans nk4); have nl5 : w3.cell? ⟨nb, noff + 5, none⟩ = some (.int .i64 x5) := (World.grownBy.cell_far hg3 ⟨nb, noff + 5, none⟩ (Nat.lt_of_lt_of_le hnl hAs) hnA.symm).trans (((bcell hAB).1 _ _ hnl).trans nk5); have nl6 : w3.cell? ⟨nb, noff + 6, none⟩ = some (.int .i64 x6) := (World.grownBy.cell_far hg3 ⟨nb, noff + 6, none⟩ (Nat.lt_of_lt_of_le hnl hAs) hnA.symm).trans (((bcell hAB).1 _ _ hnl).trans nk6); have nl7 : w3.cell? ⟨nb, noff + 7, none⟩ = some (.int .i64 x7) := (World.grownBy.cell_far hg3 ⟨nb, noff + 7, none⟩ (Nat.lt_of_lt_of_le hnl hAs) hnA.symm).trans (((bcell hAB).1 _ _ hnl).trans nk7); obtain ⟨kc0, kc1, kc2, kf0, kf1, kf2, klt⟩ := box3 gR3))
    have hsz3 := hw3.size
    go_wp2_with (go_at_call 79; refine (HM.out _ _ _ (HIN _ _ _ hown3)).mono ?_; rintro en w4 ⟨rfl, hb4⟩; have gR4 := blk_keep hb4 gR3; have own4 := own_below own3 hb4; have ownN := own_below hown3 hb4; have hw4 := hw3.trans (hb4.mono (Nat.le_trans hFR (Nat.le_of_lt (blk_lt gR3)))); obtain ⟨mc0, mc1, mc2, mf0, mf1, mf2, mlt⟩ := box3 gR4)
    go_ret
    exact ⟨rfl, ⟨A, cap, gR4, own4⟩, hw4⟩
  | true =>
    rw [hmv] at HM
    rw [if_pos rfl]
    clear hmv
    go_enter Tryz.func185, Tryz.ntmps185
    go_wp2_with (go_at_call 251; refine (HU.out _ (below1 _ _)).mono ?_; rintro en w1 ⟨a1, c1, a2, c2, rfl, oi, ob, hb1⟩; have hb1' : Below w.heap.size w w1 := alloc_below hb1; have hal := below1 w1 (.cells #[.slice a1 8 c1, .slice a2 0 c2] 259); have hbw := hb1'.trans (hal.mono hb1'.size); have gR := blk_keep hbw g; have ownR := own_below hown hbw; have gB := blk_alloc (blk_keep hb1 (blk_new w (.cells #[.int .i64 2, .slice d body.length cd] 262))) (.cells #[.slice a1 8 c1, .slice a2 0 c2] 259); have gX := blk_new w1 (.cells #[.slice a1 8 c1, .slice a2 0 c2] 259); have hci := RowAt.below (RowAt.of_own oi) hal; obtain ⟨rc0, rc1, rc2, rf0, rf1, rf2, rlt⟩ := box3 gR; obtain ⟨bc0, bc1, bf0, bf1, blt⟩ := box2 gB; obtain ⟨xc0, xc1, xf0, xf1, xlt⟩ := box2 gX; have hbF := hbw.mono hF)
    obtain ⟨nb, noff, ha0, hnlt, nc0⟩ := CellsI.at hci (k := 0) (by simp)
    subst ha0
    obtain ⟨_, _, ha1, _, nc1⟩ := CellsI.at hci (k := 1) (by simp)
    cases ha1
    obtain ⟨_, _, ha1, _, nc2⟩ := CellsI.at hci (k := 2) (by simp)
    cases ha1
    obtain ⟨_, _, ha1, _, nc3⟩ := CellsI.at hci (k := 3) (by simp)
    cases ha1
    obtain ⟨_, _, ha1, _, nc4⟩ := CellsI.at hci (k := 4) (by simp)
    cases ha1
    obtain ⟨_, _, ha1, _, nc5⟩ := CellsI.at hci (k := 5) (by simp)
    cases ha1
    obtain ⟨_, _, ha1, _, nc6⟩ := CellsI.at hci (k := 6) (by simp)
    cases ha1
    obtain ⟨_, _, ha1, _, nc7⟩ := CellsI.at hci (k := 7) (by simp)
    cases ha1
    rw [Nat.add_zero] at nc0
    simp only [List.getElem_cons_zero, List.getElem_cons_succ] at nc0 nc1 nc2 nc3 nc4 nc5 nc6 nc7
    have hnb : w.heap.size ≤ nb := Nat.le_trans (below1 w (.cells #[.int .i64 2, .slice d body.length cd] 262)).size (own_from oi (by simp) nb noff rfl)
    go_quiet (fail)
    clear hwr
    go_wp2
    have nk1 : ((w1.alloc (.cells #[.slice (some ⟨nb, noff, none⟩) ([x0, x1, x2, x3, x4, x5, x6, x7] : List Int).length c1, .slice a2 ([] : List UInt8).length c2] 259)).drewN nq).cell? ⟨nb, noff + 1, none⟩ = some (.int .i64 x1) := nc1
    have nk2 : ((w1.alloc (.cells #[.slice (some ⟨nb, noff, none⟩) ([x0, x1, x2, x3, x4, x5, x6, x7] : List Int).length c1, .slice a2 ([] : List UInt8).length c2] 259)).drewN nq).cell? ⟨nb, noff + 2, none⟩ = some (.int .i64 x2) := nc2
    have nk3 : ((w1.alloc (.cells #[.slice (some ⟨nb, noff, none⟩) ([x0, x1, x2, x3, x4, x5, x6, x7] : List Int).length c1, .slice a2 ([] : List UInt8).length c2] 259)).drewN nq).cell? ⟨nb, noff + 3, none⟩ = some (.int .i64 x3) := nc3
    have nk4 : ((w1.alloc (.cells #[.slice (some ⟨nb, noff, none⟩) ([x0, x1, x2, x3, x4, x5, x6, x7] : List Int).length c1, .slice a2 ([] : List UInt8).length c2] 259)).drewN nq).cell? ⟨nb, noff + 4, none⟩ = some (.int .i64 x4) := nc4
    have nk5 : ((w1.alloc (.cells #[.slice (some ⟨nb, noff, none⟩) ([x0, x1, x2, x3, x4, x5, x6, x7] : List Int).length c1, .slice a2 ([] : List UInt8).length c2] 259)).drewN nq).cell? ⟨nb, noff + 5, none⟩ = some (.int .i64 x5) := nc5
    have nk6 : ((w1.alloc (.cells #[.slice (some ⟨nb, noff, none⟩) ([x0, x1, x2, x3, x4, x5, x6, x7] : List Int).length c1, .slice a2 ([] : List UInt8).length c2] 259)).drewN nq).cell? ⟨nb, noff + 6, none⟩ = some (.int .i64 x6) := nc6
    have nk7 : ((w1.alloc (.cells #[.slice (some ⟨nb, noff, none⟩) ([x0, x1, x2, x3, x4, x5, x6, x7] : List Int).length c1, .slice a2 ([] : List UInt8).length c2] 259)).drewN nq).cell? ⟨nb, noff + 7, none⟩ = some (.int .i64 x7) := nc7
    have gRW : ((w1.alloc (.cells #[.slice (some ⟨nb, noff, none⟩) ([x0, x1, x2, x3, x4, x5, x6, x7] : List Int).length c1, .slice a2 ([] : List UInt8).length c2] 259)).drewN nq).heap[R]? = some (.cells #[.int .i64 t0, .int .i64 v0, .slice A es.length cap] 116) := gR
    have ownW : ((w1.alloc (.cells #[.slice (some ⟨nb, noff, none⟩) ([x0, x1, x2, x3, x4, x5, x6, x7] : List Int).length c1, .slice a2 ([] : List UInt8).length c2] 259)).drewN nq).ownsRow base 82 7 (.slice A es.length cap) es.length (ensV es) := ownR
    have hWF : Below F w ((w1.alloc (.cells #[.slice (some ⟨nb, noff, none⟩) ([x0, x1, x2, x3, x4, x5, x6, x7] : List Int).length c1, .slice a2 ([] : List UInt8).length c2] 259)).drewN nq) := Below.many hbF nq
    have hwW : Below w.heap.size w ((w1.alloc (.cells #[.slice (some ⟨nb, noff, none⟩) ([x0, x1, x2, x3, x4, x5, x6, x7] : List Int).length c1, .slice a2 ([] : List UInt8).length c2] 259)).drewN nq) := Below.many hbw nq
    have hnl : nb < ((w1.alloc (.cells #[.slice (some ⟨nb, noff, none⟩) ([x0, x1, x2, x3, x4, x5, x6, x7] : List Int).length c1, .slice a2 ([] : List UInt8).length c2] 259)).drewN nq).heap.size := hnlt
    have hbW : base ≤ ((w1.alloc (.cells #[.slice (some ⟨nb, noff, none⟩) ([x0, x1, x2, x3, x4, x5, x6, x7] : List Int).length c1, .slice a2 ([] : List UInt8).length c2] 259)).drewN nq).heap.size := Nat.le_trans hbs hbw.size
    clear nc0 nc1 nc2 nc3 nc4 nc5 nc6 nc7 gR ownR hbF gX gB hci rc0 rc1 rc2 rf0 rf1 rf2 rlt bc0 bc1 bf0 bf1 blt xc0 xc1 xf0 xf1 xlt hal hbw
    generalize ((w1.alloc (.cells #[.slice (some ⟨nb, noff, none⟩) ([x0, x1, x2, x3, x4, x5, x6, x7] : List Int).length c1, .slice a2 ([] : List UInt8).length c2] 259)).drewN nq) = W at *
    obtain ⟨rc0, rc1, rc2, rf0, rf1, rf2, rlt⟩ := box3 gRW
    have hRow : RowAt (W.drew.alloc (.cells #[.int .i64 x1, .int .i64 x2, .int .i64 x3, .int .i64 x4, .int .i64 x5, .int .i64 x6, .int .i64 x7] 82)) (some ⟨W.heap.size, 0, none⟩) (ensV [((x1, x2, x3, x4, x5, x6, x7) : En)]) := RowAt.new W.drew #[.int .i64 x1, .int .i64 x2, .int .i64 x3, .int .i64 x4, .int .i64 x5, .int .i64 x6, .int .i64 x7] 82
    have hAB : Below W.heap.size W (W.drew.alloc (.cells #[.int .i64 x1, .int .i64 x2, .int .i64 x3, .int .i64 x4, .int .i64 x5, .int .i64 x6, .int .i64 x7] 82)) := (below0 W).drew.alloc (below0 W).drew.size (.cells #[.int .i64 x1, .int .i64 x2, .int .i64 x3, .int .i64 x4, .int .i64 x5, .int .i64 x6, .int .i64 x7] 82)
    obtain ⟨jc0, jc1, jc2, _, _, _, _⟩ := box3 (blk_keep hAB gRW)
    have hnA : (Value.slice A es.length cap).ownBlock ≠ some nb := fun e => by have := (hown.lt _ e).2; omega
    have hAs := hAB.size
    go_region_held3 (fun Z => Z.cell? ⟨R, 2, none⟩ = some (.slice A es.length cap) ∧ Z.cell? ⟨nb, noff + 1, none⟩ = some (.int .i64 x1) ∧ Z.cell? ⟨nb, noff + 2, none⟩ = some (.int .i64 x2) ∧ Z.cell? ⟨nb, noff + 3, none⟩ = some (.int .i64 x3) ∧ Z.cell? ⟨nb, noff + 4, none⟩ = some (.int .i64 x4) ∧ Z.cell? ⟨nb, noff + 5, none⟩ = some (.int .i64 x5) ∧ Z.cell? ⟨nb, noff + 6, none⟩ = some (.int .i64 x6) ∧ Z.cell? ⟨nb, noff + 7, none⟩ = some (.int .i64 x7)) (first | exact ⟨rc2, nk1, nk2, nk3, nk4, nk5, nk6, nk7⟩ | exact ⟨kc2, nl1, nl2, nl3, nl4, nl5, nl6, nl7⟩ | go_keep) ((refine step_append_row2 rfl (.tmp 73) (.tmp 97) rfl elemE base (.slice A es.length cap) es.length (ensV es) (by rfl) (own_below ownW hAB) ⟨W.heap.size, 0, none⟩ 1 1 (ensV [((x1, x2, x3, x4, x5, x6, x7) : En)]) (by rfl) (ensV_length _) hRow (ensV_one _) (by decide) (by unfold maxLen; omega) (by omega) (Nat.le_trans hbW hAs) ?_; intro a3 c3 w3 hown3 hg3 own3; have hne : ∀ j, j < base → (Value.slice A es.length cap).ownBlock ≠ some j := (fun j hj e => by have := (ownW.lt _ e).1; omega); have gR3 := blk_grown hg3 (blk_keep hAB gRW) (hne _ hRb); have hw3 : Below F w w3 := Below.appended (hWF.trans (hAB.mono (Nat.le_trans hF (hwW.size)))) (own_below ownW hAB) hg3 (Nat.le_trans hF (Nat.le_trans hwW.size hAs)) (by omega); have nl1 : w3.cell? ⟨nb, noff + 1, none⟩ = some (.int .i64 x1) := (World.grownBy.cell_far hg3 ⟨nb, noff + 1, none⟩ (Nat.lt_of_lt_of_le hnl hAs) hnA.symm).trans (((bcell hAB).1 _ _ hnl).trans nk1); have nl2 : w3.cell? ⟨nb, noff + 2, none⟩ = some (.int .i64 x2) := (World.grownBy.cell_far hg3 ⟨nb, noff + 2, none⟩ (Nat.lt_of_lt_of_le hnl hAs) hnA.symm).trans (((bcell hAB).1 _ _ hnl).trans nk2); have nl3 : w3.cell? ⟨nb, noff + 3, none⟩ = some (.int .i64 x3) := (World.grownBy.cell_far hg3 ⟨nb, noff + 3, none⟩ (Nat.lt_of_lt_of_le hnl hAs) hnA.symm).trans (((bcell hAB).1 _ _ hnl).trans nk3); have nl4 : w3.cell? ⟨nb, noff + 4, none⟩ = some (.int .i64 x4) := (World.grownBy.cell_far hg3 ⟨nb, noff + 4, none⟩ (Nat.lt_of_lt_of_le hnl hAs) hnA.symm).trans (((bcell hAB).1 _ _ hnl).trans nk4); have nl5 : w3.cell? ⟨nb, noff + 5, none⟩ = some (.int .i64 x5) := (World.grownBy.cell_far hg3 ⟨nb, noff + 5, none⟩ (Nat.lt_of_lt_of_le hnl hAs) hnA.symm).trans (((bcell hAB).1 _ _ hnl).trans nk5); have nl6 : w3.cell? ⟨nb, noff + 6, none⟩ = some (.int .i64 x6) := (World.grownBy.cell_far hg3 ⟨nb, noff + 6, none⟩ (Nat.lt_of_lt_of_le hnl hAs) hnA.symm).trans (((bcell hAB).1 _ _ hnl).trans nk6); have nl7 : w3.cell? ⟨nb, noff + 7, none⟩ = some (.int .i64 x7) := (World.grownBy.cell_far hg3 ⟨nb, noff + 7, none⟩ (Nat.lt_of_lt_of_le hnl hAs) hnA.symm).trans (((bcell hAB).1 _ _ hnl).trans nk7); obtain ⟨kc0, kc1, kc2, kf0, kf1, kf2, klt⟩ := box3 gR3))
    have hsz3 := hw3.size
    go_wp2_with (go_at_call 79; refine (HM.out _ _ _ (HIN _ _ _ hown3)).mono ?_; rintro en w4 ⟨rfl, hb4⟩; have gR4 := blk_keep hb4 gR3; have own4 := own_below own3 hb4; have ownN := own_below hown3 hb4; have hw4 := hw3.trans (hb4.mono (Nat.le_trans hFR (Nat.le_of_lt (blk_lt gR3)))); obtain ⟨mc0, mc1, mc2, mf0, mf1, mf2, mlt⟩ := box3 gR4)
    go_ret
    refine ⟨rfl, ⟨a3, c3, ?_, ?_⟩, hw4.setCell (p := ⟨R, 2, none⟩) hFR _⟩
    · simp only [Option.getD_some, HEL.out]
      exact blk_set (i := 2) gR4 (.slice a3 (es.length + 1) c3)
    · simp only [Option.getD_some, HEL.out, HAP.out]
      exact ownsRow_setCell_below ownN (a := ⟨R, 2, none⟩) hRb _
end Go.Proofs.YthjdbmfobmnnlaaGreat
