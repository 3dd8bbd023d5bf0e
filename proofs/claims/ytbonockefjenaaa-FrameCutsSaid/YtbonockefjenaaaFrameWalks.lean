/-
  The contracts of layer 3's functions: what is put, how long what is got is.
-/
import Derived.Test.YtbonockefjenaaaCrcWalksD
import Derived.Test.YtbonockefjenaaaFrameMath
import Derived.Test.YtbonockefjenaaaSlices
import Derived.Test.YtbonockefjenaaaSliceG
import Derived.Test.YtbonockefjenaaaRowBytes
namespace Go.Proofs.Ytbonockefjenaaa
open Go.RowKit

theorem own_lit1 {w : World} {base : Nat} {e : TypeId} {size : Nat} (o : Obj) (cs : Array Value) (n : Nat) (hb : base ≤ w.heap.size + 1) (hm : n ≤ maxLen) (hs : cs.size = n * size) :
    ((w.alloc o).alloc (.cells cs e)).ownsRow base e size (.slice (some ⟨w.heap.size + 1, 0, none⟩) n n) n cs.toList := by
  have h := World.ownsRow_lit (base := base) (e := e) (size := size) (w.alloc o) cs n (by simpa using hb) hm hs
  have e1 : (w.alloc o).heap.size = w.heap.size + 1 := by simp
  rwa [e1] at h
/-- A row and an error. -/
def RetRowE (e : TypeId) (size n : Nat) (xs : List Value) (err : Int) (w : World) (en : Ending) (w' : World) : Prop :=
  ∃ a cap, en = .returned (.tuple #[.slice a n cap, .int .i64 err]) ∧ w'.ownsRow w.heap.size e size (.slice a n cap) n xs ∧ Below w.heap.size w w'
theorem put_parts {f : Fr} (h : putE f = 0) : (headOf f.1.toNat f.2.length).map byteV = [.int .u8 83, .int .u8 f.1, .int .u8 ((f.2.length : Int) / 256), .int .u8 ((f.2.length : Int) % 256)] := by
  have hp := putE_zero h
  show [byteV 83, byteV (b8 f.1.toNat), byteV (b8 (f.2.length / 256)), byteV (b8 (f.2.length % 256))] = _
  unfold byteV
  rw [b8_toNat _ (by omega), b8_toNat _ (by omega), b8_toNat _ (by omega)]
  have e1 : ((f.1.toNat : Nat) : Int) = f.1 := by omega
  rw [e1]
  rfl
set_option maxHeartbeats 1600000 in
theorem put_any (k : Int) (a : Option Addr) (cap : Nat) (bs : List UInt8) (w : World) (hb : CellsB w a bs) (hz : a = none → bs.length = 0) :
    Calls Try.prog 11 #[.agg #[.int .i64 k, .slice a bs.length cap]] w (RetRowE 5 1 (putB (k, bs)).length ((putB (k, bs)).map byteV) (putE (k, bs)) w) := by
  have HZ := Lib.hid hz
  clear hz
  by_cases h1 : k < 0
  · have he : Hid (putE (k, bs) = 1 ∧ putB (k, bs) = []) := by
      have : putE (k, bs) = 1 := by unfold putE; rw [if_pos (.inl h1)]
      exact ⟨this, putB_none (by omega)⟩
    clear hb
    go_enter Try.func11, Try.ntmps11
    go_wp2
    go_ret2
    rw [he.out.1, he.out.2]
    exact ⟨none, 0, rfl, World.ownsRow_nil _ _ _ _, (Below.refl _ _).alloc (Nat.le_refl _) _⟩
  · by_cases h2 : 255 < k
    · have he : Hid (putE (k, bs) = 1 ∧ putB (k, bs) = []) := by
        have : putE (k, bs) = 1 := by unfold putE; rw [if_pos (.inr h2)]
        exact ⟨this, putB_none (by omega)⟩
      clear hb
      go_enter Try.func11, Try.ntmps11
      go_wp2
      go_ret2
      rw [he.out.1, he.out.2]
      exact ⟨none, 0, rfl, World.ownsRow_nil _ _ _ _, (Below.refl _ _).alloc (Nat.le_refl _) _⟩
    · by_cases h3 : (4096 : Int) < (bs.length : Int)
      · have he : Hid (putE (k, bs) = 7 ∧ putB (k, bs) = []) := by
          have : putE (k, bs) = 7 := by unfold putE; rw [if_neg (by omega), if_pos (by show 4096 < bs.length; omega)]
          exact ⟨this, putB_none (by omega)⟩
        clear hb
        go_enter Try.func11, Try.ntmps11
        go_wp2
        go_ret2
        rw [he.out.1, he.out.2]
        exact ⟨none, 0, rfl, World.ownsRow_nil _ _ _ _, (Below.refl _ _).alloc (Nat.le_refl _) _⟩
      · have h0 : putE (k, bs) = 0 := by unfold putE; rw [if_neg (by omega), if_neg (by show ¬ 4096 < bs.length; omega)]
        have he : Hid (putE (k, bs) = 0 ∧ putB (k, bs) = sealed (headOf k.toNat bs.length ++ bs)) := ⟨h0, putB_eq h0⟩
        have hp := Lib.hid (put_parts h0)
        have hl : Hid ((headOf k.toNat bs.length ++ bs).length = 4 + bs.length) := by rw [Hid, List.length_append, headOf_length]
        have hs : Hid (∀ W A c, CellsB W A (headOf k.toNat bs.length ++ bs) → (A = none → 4 + bs.length = 0) → Calls Try.prog 18 #[.slice A (4 + bs.length) c] W (RetRow 5 1 (putB (k, bs)).length ((putB (k, bs)).map byteV) W)) := fun W A c h hz => by
          have := sealB_any A c (headOf k.toNat bs.length ++ bs) W h (by rw [hl.out]; exact hz) (by rw [hl.out]; omega)
          rw [he.out.2, sealed_length]
          rwa [hl.out] at this ⊢
        have hown0 := own_lit1 (w := w) (base := w.heap.size) (e := 5) (size := 1) (.cells #[.int .i64 k, .slice a bs.length cap] 24) #[.int .u8 83, .int .u8 k, .int .u8 ((bs.length : Int) / 256), .int .u8 ((bs.length : Int) % 256)] 4 (by omega) (by unfold maxLen; omega) rfl
        clear h0
        go_enter Try.func11, Try.ntmps11
        go_wp2_with (first
          | (at_builtin; refine wpList_append_row rfl (.tmp 32) (.tmp 34) rfl elemB w.heap.size (.slice (some ⟨w.heap.size + 1, 0, none⟩) 4 4) 4 ((headOf k.toNat bs.length).map byteV) (by rfl) (by rw [hp.out]; exact hown0) a bs.length cap (bs.map byteV) (by rfl) (by simp) ((RowAt.alloc hb _).alloc _) (byteV_one _) (by unfold maxLen; omega) (by omega) (by simp; omega) HZ.out ?_; intro a1 c1 w1 hown1 hg1 hat1; have hb1 : Below w.heap.size w w1 := Below.appended (((Below.refl _ _).alloc (Nat.le_refl _) _).alloc (by simp) _) hown0 hg1 (by simp; omega) (Nat.le_refl _); rw [← List.map_append] at hown1; clear hat1 hg1)
          | (go_at_call 18; refine (hs.out _ a1 c1 (RowAt.of_own hown1) (own_none hown1)).mono ?_; rintro e w2 ⟨a2, c2, rfl, hown2, hb2⟩))
        go_ret2
        rw [he.out.1]
        exact ⟨a2, c2, rfl, own_base hown2 hb1.size, bt hb1 hb2⟩
set_option maxHeartbeats 1600000 in
theorem refPut_any (k : Int) (a : Option Addr) (cap : Nat) (bs : List UInt8) (w : World) (hb : CellsB w a bs) (hz : a = none → bs.length = 0) :
    Calls Try.prog 12 #[.agg #[.int .i64 k, .slice a bs.length cap]] w (RetRowE 5 1 (putB (k, bs)).length ((putB (k, bs)).map byteV) (putE (k, bs)) w) := by
  have HZ := Lib.hid hz
  clear hz
  by_cases h1 : k < 0
  · have he : Hid (putE (k, bs) = 1 ∧ putB (k, bs) = []) := by
      have : putE (k, bs) = 1 := by unfold putE; rw [if_pos (.inl h1)]
      exact ⟨this, putB_none (by omega)⟩
    clear hb
    go_enter Try.func12, Try.ntmps12
    go_wp2
    go_ret2
    rw [he.out.1, he.out.2]
    exact ⟨none, 0, rfl, World.ownsRow_nil _ _ _ _, (Below.refl _ _).alloc (Nat.le_refl _) _⟩
  · by_cases h2 : 255 < k
    · have he : Hid (putE (k, bs) = 1 ∧ putB (k, bs) = []) := by
        have : putE (k, bs) = 1 := by unfold putE; rw [if_pos (.inr h2)]
        exact ⟨this, putB_none (by omega)⟩
      clear hb
      go_enter Try.func12, Try.ntmps12
      go_wp2
      go_ret2
      rw [he.out.1, he.out.2]
      exact ⟨none, 0, rfl, World.ownsRow_nil _ _ _ _, (Below.refl _ _).alloc (Nat.le_refl _) _⟩
    · by_cases h3 : (4096 : Int) < (bs.length : Int)
      · have he : Hid (putE (k, bs) = 7 ∧ putB (k, bs) = []) := by
          have : putE (k, bs) = 7 := by unfold putE; rw [if_neg (by omega), if_pos (by show 4096 < bs.length; omega)]
          exact ⟨this, putB_none (by omega)⟩
        clear hb
        go_enter Try.func12, Try.ntmps12
        go_wp2
        go_ret2
        rw [he.out.1, he.out.2]
        exact ⟨none, 0, rfl, World.ownsRow_nil _ _ _ _, (Below.refl _ _).alloc (Nat.le_refl _) _⟩
      · have h0 : putE (k, bs) = 0 := by unfold putE; rw [if_neg (by omega), if_neg (by show ¬ 4096 < bs.length; omega)]
        have he : Hid (putE (k, bs) = 0 ∧ putB (k, bs) = sealed (headOf k.toNat bs.length ++ bs)) := ⟨h0, putB_eq h0⟩
        have hp := Lib.hid (put_parts h0)
        have hl : Hid ((headOf k.toNat bs.length ++ bs).length = 4 + bs.length) := by rw [Hid, List.length_append, headOf_length]
        have hs : Hid (∀ W A c, CellsB W A (headOf k.toNat bs.length ++ bs) → (A = none → 4 + bs.length = 0) → Calls Try.prog 19 #[.slice A (4 + bs.length) c] W (RetRow 5 1 (putB (k, bs)).length ((putB (k, bs)).map byteV) W)) := fun W A c h hz => by
          have := refSeal_any A c (headOf k.toNat bs.length ++ bs) W h (by rw [hl.out]; exact hz) (by rw [hl.out]; omega)
          rw [he.out.2, sealed_length]
          rwa [hl.out] at this ⊢
        have hown0 := own_lit1 (w := w) (base := w.heap.size) (e := 5) (size := 1) (.cells #[.int .i64 k, .slice a bs.length cap] 24) #[.int .u8 83, .int .u8 k, .int .u8 ((bs.length : Int) / 256), .int .u8 ((bs.length : Int) % 256)] 4 (by omega) (by unfold maxLen; omega) rfl
        clear h0
        go_enter Try.func12, Try.ntmps12
        go_wp2_with (first
          | (at_builtin; refine wpList_append_row rfl (.tmp 29) (.tmp 31) rfl elemB w.heap.size (.slice (some ⟨w.heap.size + 1, 0, none⟩) 4 4) 4 ((headOf k.toNat bs.length).map byteV) (by rfl) (by rw [hp.out]; exact hown0) a bs.length cap (bs.map byteV) (by rfl) (by simp) ((RowAt.alloc hb _).alloc _) (byteV_one _) (by unfold maxLen; omega) (by omega) (by simp; omega) HZ.out ?_; intro a1 c1 w1 hown1 hg1 hat1; have hb1 : Below w.heap.size w w1 := Below.appended (((Below.refl _ _).alloc (Nat.le_refl _) _).alloc (by simp) _) hown0 hg1 (by simp; omega) (Nat.le_refl _); rw [← List.map_append] at hown1; clear hat1 hg1)
          | (go_at_call 19; refine (hs.out _ a1 c1 (RowAt.of_own hown1) (own_none hown1)).mono ?_; rintro e w2 ⟨a2, c2, rfl, hown2, hb2⟩))
        go_ret2
        rw [he.out.1]
        exact ⟨a2, c2, rfl, own_base hown2 hb1.size, bt hb1 hb2⟩
theorem ret_two_int {a b c : Int} (h : a = b) : Ending.returned (.tuple #[.int .i64 a, .int .i64 c]) = .returned (.tuple #[.int .i64 b, .int .i64 c]) := by rw [h]
theorem or_form (a b : Nat) (ha : a < 256) (hb : b < 256) : bits .or .i64 ((a : Int) * 256) (b : Int) = ((a * 256 + b : Nat) : Int) := by
  have hk : ∀ n : Int, 0 ≤ n → n < 2 ^ 62 → IntKind.i64.wrap n = n := fun n h0 h1 => by rw [IntKind.wrap_i64]; omega
  have := bits_join .i64 62 (by decide) hk 8 ((a : Int) * 256) (b : Int) (by omega) (by omega) (by omega) (by omega) (by omega) (by omega)
  rw [this]; omega
theorem CellsB.pick {w : World} {a : Option Addr} {bs : List UInt8} (h : CellsB w a bs) {b off : Nat} (ha : a = some ⟨b, off, none⟩) {k : Nat} (hk : k < bs.length) : w.cell? ⟨b, off + k, none⟩ = some (.int .u8 ((bs.getD k 0).toNat : Int)) := by
  obtain ⟨b', off', ha', _, hc⟩ := h.at hk
  rw [ha] at ha'
  cases ha'
  exact hc
set_option maxHeartbeats 1600000 in
theorem size_any (a : Option Addr) (cap : Nat) (bs : List UInt8) (w : World) (hb : CellsB w a bs) (hl : bs.length ≤ 900000) :
    Calls Try.prog 20 #[.slice a bs.length cap] w fun e w' => e = .returned (.tuple #[.int .i64 (sizeN bs), .int .i64 (sizeE bs)]) ∧ Below w.heap.size w w' := by
  by_cases h0 : bs.length = 0
  · have he : Hid (sizeE bs = 3 ∧ sizeN bs = 0) := by
      have : sizeE bs = 3 := by unfold sizeE; rw [if_pos h0]
      exact ⟨this, by unfold sizeN; rw [if_neg (by omega)]⟩
    have ht : ((bs.length : Int) == 0) = true := by simp [h0]
    clear hb h0
    go_enter Try.func20, Try.ntmps20
    go_wp2
    go_ret2
    rw [he.out.1, he.out.2]
    exact ⟨rfl, Below.refl _ _⟩
  · have ht : ((bs.length : Int) == 0) = false := beq_eq_false_iff_ne.2 (by omega)
    have hp : 0 < bs.length := by omega
    obtain ⟨b, off, rfl, hbl, hc0⟩ := hb.at hp
    have hc0' : w.cell? ⟨b, off, none⟩ = some (.int .u8 ((bs.getD 0 0).toNat : Int)) := hc0
    clear hc0
    by_cases h1 : (bs.getD 0 0).toNat = 83
    · by_cases h4 : bs.length < 4
      · have he : Hid (sizeE bs = 3 ∧ sizeN bs = 0) := by
          have : sizeE bs = 3 := by unfold sizeE; rw [if_neg h0, if_neg (fun h => h h1), if_pos h4]
          exact ⟨this, by unfold sizeN; rw [if_neg (by omega)]⟩
        have ht1 : (((bs.getD 0 0).toNat : Int) != 83) = false := by rw [h1]; rfl
        have h4i : (bs.length : Int) < 4 := by omega
        clear hb h1
        generalize (bs.getD 0 0).toNat = B0 at hc0' ht1
        go_enter Try.func20, Try.ntmps20
        go_wp2
        go_ret2
        rw [he.out.1, he.out.2]
        exact ⟨rfl, Below.refl _ _⟩
      · have hc2 := hb.pick rfl (k := 2) (by omega)
        have hc3 := hb.pick rfl (k := 3) (by omega)
        have HN : Hid (lenOf bs = (bs.getD 2 0).toNat * 256 + (bs.getD 3 0).toNat) := rfl
        have hl2 := (bs.getD 2 0).toNat_lt
        have hl3 := (bs.getD 3 0).toNat_lt
        have ht1 : (((bs.getD 0 0).toNat : Int) != 83) = false := by rw [h1]; rfl
        have h4i : (4 : Int) ≤ (bs.length : Int) := by omega
        have hi2 : (2 : Int) < (bs.length : Int) := by omega
        have hi3 : (3 : Int) < (bs.length : Int) := by omega
        have hE : Hid (sizeE bs = if 4096 < lenOf bs then 7 else if bs.length < lenOf bs + 8 then 3 else 0) := by
          unfold sizeE; rw [Hid, if_neg h0, if_neg (fun h => h h1), if_neg h4]
        clear h1 hb
        generalize (bs.getD 0 0).toNat = B0 at hc0' ht1
        generalize (bs.getD 2 0).toNat = B2 at hc2 HN hl2
        generalize (bs.getD 3 0).toNat = B3 at hc3 HN hl3
        have hor := or_form B2 B3 hl2 hl3
        rw [← HN.out] at hor
        have hL : lenOf bs < 65536 := by rw [HN.out]; omega
        have hN : Hid (sizeN bs = if sizeE bs = 0 then lenOf bs + 8 else 0) := rfl
        clear HN
        generalize lenOf bs = L at hor hL hE hN
        by_cases h5 : (4096 : Int) < (L : Int)
        · have he : Hid (sizeE bs = 7 ∧ sizeN bs = 0) := by
            have : sizeE bs = 7 := by rw [hE.out, if_pos (by omega)]
            exact ⟨this, by rw [hN.out, if_neg (by omega)]⟩
          go_enter Try.func20, Try.ntmps20
          go_wp2
          go_quiet (fail)
          go_wp2
          go_ret2
          rw [he.out.1, he.out.2]
          exact ⟨rfl, below_drewN (Below.refl _ _) _⟩
        · by_cases h6 : (bs.length : Int) < (L : Int) + 8
          · have he : Hid (sizeE bs = 3 ∧ sizeN bs = 0) := by
              have : sizeE bs = 3 := by rw [hE.out, if_neg (by omega), if_pos (by omega)]
              exact ⟨this, by rw [hN.out, if_neg (by omega)]⟩
            go_enter Try.func20, Try.ntmps20
            go_wp2
            go_quiet (fail)
            go_wp2
            go_ret2
            rw [he.out.1, he.out.2]
            exact ⟨rfl, below_drewN (Below.refl _ _) _⟩
          · have he : Hid (sizeE bs = 0 ∧ sizeN bs = L + 8) := by
              have : sizeE bs = 0 := by rw [hE.out, if_neg (by omega), if_neg (by omega)]
              exact ⟨this, by rw [hN.out, if_pos this]⟩
            go_enter Try.func20, Try.ntmps20
            go_wp2
            go_quiet (fail)
            go_wp2
            go_ret2
            rw [he.out.1, he.out.2]
            exact ⟨ret_two_int (by omega), below_drewN (Below.refl _ _) _⟩
    · have he : Hid (sizeE bs = 2 ∧ sizeN bs = 0) := by
        have : sizeE bs = 2 := by unfold sizeE; rw [if_neg h0, if_pos h1]
        exact ⟨this, by unfold sizeN; rw [if_neg (by omega)]⟩
      have ht1 : (((bs.getD 0 0).toNat : Int) != 83) = true := by
        simp only [bne_iff_ne, ne_eq]; omega
      clear hb h1
      generalize (bs.getD 0 0).toNat = B0 at hc0' ht1
      go_enter Try.func20, Try.ntmps20
      go_wp2
      go_ret2
      rw [he.out.1, he.out.2]
      exact ⟨rfl, Below.refl _ _⟩
end Go.Proofs.Ytbonockefjenaaa
