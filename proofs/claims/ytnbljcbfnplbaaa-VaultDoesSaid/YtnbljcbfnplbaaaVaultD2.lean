/-
  Layer 8's laws: VaultDoes.
-/
import Derived.Test.YtnbljcbfnplbaaaVaultD1
import Derived.Test.YtnbljcbfnplbaaaVaultZc
import Derived.Test.YtnbljcbfnplbaaaBE
import Derived.Deep.CutBlock
namespace Go.Proofs.Ytnbljcbfnplbaaa
open Go.RowKit
set_option linter.unusedVariables false
theorem rv_new (w : World) (lo hi : Nat) : RvAt (w.alloc (.cells #[.slice none 0 0, .int .i64 0, .int .i64 0, .int .i64 0, .slice none 0 0] 50)) w.heap.size lo hi vt0 := ⟨none, 0, none, 0, blk_new w _, .inl rfl, fun _ => rfl, Nat.le_refl _, fun h => absurd rfl h, ⟨.inl rfl, Nat.le_refl _, fun _ => rfl, Nat.zero_le _⟩, fun h => absurd rfl h⟩
set_option maxRecDepth 100000 in
set_option maxHeartbeats 12800000 in
theorem vaultDoes_walk (a : Option Addr) (cap : Nat) (ms : List EvT) (w : World) (h : EvsIn w a cap ms) :
    Calls Try.prog 5 #[.slice a ms.length cap] w fun e w' => e = .returned (.bool true) ∧ Below w.heap.size w w' := by
  have H := Lib.hid h
  have hmx := h.max
  have HF : Hid (∀ W, Below w.heap.size w W → Calls Try.prog 16 #[.slice a ms.length cap] W (RetFew ms W)) := fun W hW => few_any a cap ms W (h.below hW)
  clear h
  go_enter Try.func5, Try.ntmps5
  go_upto_region 3 with (first
    | (go_at_call 9; refine (vaultAwake_any _).mono ?_; rintro e w1 ⟨rfl, hw1⟩)
    | (go_at_call 16; refine (HF.out _ hw1).mono ?_; rintro e w2 ⟨q, rfl, hq, rfl⟩))
  have HQ := Lib.hid hq
  clear hq
  cases q with
  | false =>
    go_wp2_with (go_at_call 10; refine (newB_any _ _ rfl).mono ?_; rintro e w3 ⟨rfl, hv, hs3, hb3⟩; have hw3 := hw1.trans (hb3.mono hw1.size))
    go_ret
    exact ⟨rfl, hw3⟩
  | true =>
    have h30 := HQ.out rfl
    clear HF
    go_upto_block 0 with (go_at_call 10; refine (newB_any _ _ rfl).mono ?_; rintro e w3 ⟨rfl, hv0, hs3, hb3⟩; have hw3 := hw1.trans (hb3.mono hw1.size))
    have hV1 : w.heap.size ≤ w2.heap.size := hw1.size
    obtain ⟨V, hV⟩ : ∃ V, V = w2.heap.size := ⟨_, rfl⟩
    obtain ⟨R, hR⟩ : ∃ R, R = w2.heap.size + 1 := ⟨_, rfl⟩
    have hVR : V < R := by omega
    have hlo : w.heap.size ≤ V := by omega
    have hv : VtAt (w3.alloc (.cells #[.slice none 0 0, .int .i64 0, .int .i64 0, .int .i64 0, .slice none 0 0] 50)) V (R + 1) vt0 := by rw [hV]; exact (hv0 (R + 1)).below (below1 _ _)
    have hr : RvAt (w3.alloc (.cells #[.slice none 0 0, .int .i64 0, .int .i64 0, .int .i64 0, .slice none 0 0] 50)) R w.heap.size (R + 1) vt0 := by rw [hR, ← hs3]; exact rv_new w3 _ _
    have hw4 := hw3.alloc hw3.size (.cells #[.slice none 0 0, .int .i64 0, .int .i64 0, .int .i64 0, .slice none 0 0] 50)
    have hz4 : R + 1 ≤ (w3.alloc (.cells #[.slice none 0 0, .int .i64 0, .int .i64 0, .int .i64 0, .slice none 0 0] 50)).heap.size := by rw [hR, ← hs3]; simp
    rw [← hR, ← hV]
    clear hv0 hs3 hb3 hw3 hV1 hV hR
    generalize w3.alloc (.cells #[.slice none 0 0, .int .i64 0, .int .i64 0, .int .i64 0, .slice none 0 0] 50) = w4 at *
    go_wp2
    go_loopw [7] (fun i wr => ∃ (k : Nat) (x : Vt), k ≤ ms.length ∧ i = .int .i64 k ∧ Hid (VtOk x) ∧ Hid (x.1.length ≤ 65536) ∧ VtAt wr V (R + 1) x ∧ RvAt wr R w.heap.size (R + 1) x ∧ R + 1 ≤ wr.heap.size ∧ Below w.heap.size w wr) (fun i _ => ms.length - (intOf i).toNat)
    case atStart => exact ⟨0, vt0, by omega, rfl, vt0_ok, Nat.zero_le _, hv, hr, hz4, hw4⟩
    case round =>
      clear hv hr hz4 hw4
      obtain ⟨k, x, hk, rfl, HOK, HLE, hv, hr, hz, hw⟩ := hrel
      have hk0 : (0 : Int) ≤ (k : Int) := by omega
      by_cases hlt : k < ms.length
      · obtain ⟨b, off, am, cm, rfl, hbl, c0, c1, c2, c3, c4, c5, c6, hlg, hlw⟩ := ev_cells H.out hlt
        generalize (ms[k]'hlt) = y at c0 c1 c2 c3 c4 c5 c6 hlg hlw
        obtain ⟨y0, y1, y2, y3, y4, y5, y6⟩ := y
        simp only at c0 c1 c2 c3 c4 c5 c6 hlg hlw
        have HC : Hid (∀ W, Below w.heap.size w W → W.cell? ⟨b, off + k * 7, none⟩ = some (.int .i64 y0) ∧ W.cell? ⟨b, off + k * 7 + 1, none⟩ = some (.int .i64 y1) ∧ W.cell? ⟨b, off + k * 7 + 2, none⟩ = some (.int .i64 y2) ∧ W.cell? ⟨b, off + k * 7 + 3, none⟩ = some (.int .i64 y3) ∧ W.cell? ⟨b, off + k * 7 + 4, none⟩ = some (.int .i64 y4) ∧ W.cell? ⟨b, off + k * 7 + 5, none⟩ = some (.slice am y5.length cm) ∧ W.cell? ⟨b, off + k * 7 + 6, none⟩ = some (.int .i64 y6) ∧ b < W.heap.size) := fun W h => ⟨((bcell h).1 _ _ hbl).trans c0, ((bcell h).1 _ _ hbl).trans c1, ((bcell h).1 _ _ hbl).trans c2, ((bcell h).1 _ _ hbl).trans c3, ((bcell h).1 _ _ hbl).trans c4, ((bcell h).1 _ _ hbl).trans c5, ((bcell h).1 _ _ hbl).trans c6, Nat.lt_of_lt_of_le hbl h.size⟩
        have HLG := Lib.hid hlg
        have HLW := Lib.hid hlw
        have hol : Out w.heap.size (R + 1) am y5.length := fun h0 b' o ha => by
          rcases hlg.row with hn | ⟨b2, o2, ha2, hlt2, _⟩
          · exact absurd (by rw [← Nat.mul_right_cancel_iff (show 0 < 7 by decide), ← ensV_length, hn]; rfl) h0
          · rw [ha] at ha2; cases ha2; exact .inl hlt2
        clear c0 c1 c2 c3 c4 c5 c6 hlg hlw
        obtain ⟨c0, c1, c2, c3, c4, c5, c6, hbw⟩ := HC.out _ hw
        have hk1 : (k : Int) < (ms.length : Int) := by omega
        go_upto_block 2 with fail
        go_cut [8, 9] from 59 to 90 (fun p q wx => ∃ (E : Int) (x : Vt), p = .int .i64 E ∧ q = .int .i64 E ∧ Hid (VtOk x) ∧ Hid (x.1.length ≤ 65536) ∧ VtAt wx V (R + 1) x ∧ RvAt wx R w.heap.size (R + 1) x ∧ R + 1 ≤ wx.heap.size ∧ Below w.heap.size w wx)
        case first =>
          by_cases k0 : y0 = 0
          · subst k0
            have HSV : Hid (∀ W, Below w.heap.size w W → VtAt W V (R + 1) x → R + 1 ≤ W.heap.size → Calls Try.prog 11 #[.pointer (some ⟨V, 0, none⟩), ballotV y1 y2, logV y3 y4 am y5.length cm] W fun e w' => e = .returned (.int .i64 (saveE x y1 y2 y3 y4 y5)) ∧ VtAt w' V (R + 1) (saveV x y1 y2 y3 y4 y5) ∧ Only V W w') := fun W h0 h1 h2 => save_any V (R + 1) x y1 y2 y3 y4 am cm y5 W h1 (by omega) h2 (HLG.out.below h0) HLW.out HOK.out HLE.out
            have HSR : Hid (∀ W, Below w.heap.size w W → RvAt W R w.heap.size (R + 1) x → R + 1 ≤ W.heap.size → Calls Try.prog 17 #[.pointer (some ⟨R, 0, none⟩), ballotV y1 y2, logV y3 y4 am y5.length cm] W fun e w' => e = .returned (.int .i64 (saveE x y1 y2 y3 y4 y5)) ∧ RvAt w' R w.heap.size (R + 1) (saveV x y1 y2 y3 y4 y5) ∧ Only R W w') := fun W h0 h1 h2 => refSave_any R w.heap.size (R + 1) x y1 y2 y3 y4 am cm y5 W h1 (by omega) (by omega) h2 (HLG.out.below h0) hol HLW.out HOK.out HLE.out
            have HOK2 : Hid (VtOk (saveV x y1 y2 y3 y4 y5)) := saveV_ok HOK.out y1 y2 y3 y4 y5
            have HLE2 : Hid ((saveV x y1 y2 y3 y4 y5).1.length ≤ 65536) := saveV_le HLE.out
            generalize saveE x y1 y2 y3 y4 y5 = E at HSV HSR
            generalize saveV x y1 y2 y3 y4 y5 = x2 at HSV HSR HOK2 HLE2
            go_wp2
            go_region_held3 (fun W => W.cell? ⟨b, off + k * 7 + 1, none⟩ = some (.int .i64 y1) ∧ W.cell? ⟨b, off + k * 7 + 2, none⟩ = some (.int .i64 y2) ∧ W.cell? ⟨b, off + k * 7 + 3, none⟩ = some (.int .i64 y3) ∧ W.cell? ⟨b, off + k * 7 + 4, none⟩ = some (.int .i64 y4) ∧ W.cell? ⟨b, off + k * 7 + 5, none⟩ = some (.slice am y5.length cm)) (first | exact ⟨d1, d2, d3, d4, d5⟩ | exact ⟨c1, c2, c3, c4, c5⟩) ((go_at_call 11; refine (HSV.out _ hw.drew (by exact hv) (by exact hz)).mono ?_; rintro e w5 ⟨rfl, hv5, hO5⟩; have hw5 := hO5.below hw.drew (by omega) (by exact hw.size); have hr5 := (hr.below (below0 _).drew).only hO5 (by omega) (by omega) (by omega); have hz5 : R + 1 ≤ w5.heap.size := Nat.le_trans hz hO5.size; obtain ⟨d0, d1, d2, d3, d4, d5, d6, hbw5⟩ := HC.out _ hw5))
            go_wp2
            go_region_held3 (fun W => W.cell? ⟨b, off + k * 7 + 1, none⟩ = some (.int .i64 y1) ∧ W.cell? ⟨b, off + k * 7 + 2, none⟩ = some (.int .i64 y2) ∧ W.cell? ⟨b, off + k * 7 + 3, none⟩ = some (.int .i64 y3) ∧ W.cell? ⟨b, off + k * 7 + 4, none⟩ = some (.int .i64 y4) ∧ W.cell? ⟨b, off + k * 7 + 5, none⟩ = some (.slice am y5.length cm)) (first | exact ⟨f1, f2, f3, f4, f5⟩ | exact ⟨d1, d2, d3, d4, d5⟩) ((go_at_call 17; refine (HSR.out _ hw5.drew (hr5.below (below0 _).drew) (by exact hz5)).mono ?_; rintro e w6 ⟨rfl, hr6, hO6⟩; have hw6 := hO6.below hw5.drew (by omega) (by exact hw5.size); have hv6 := (show VtAt w5.drew V (R + 1) x2 from hv5).only hO6 (by omega) (by omega); have hz6 : R + 1 ≤ w6.heap.size := Nat.le_trans hz5 hO6.size; obtain ⟨f0, f1, f2, f3, f4, f5, f6, hbw6⟩ := HC.out _ hw6))
            go_wp2
            go_meet
            exact ⟨E, x2, rfl, rfl, HOK2, HLE2, hv6, hr6, hz6, hw6⟩
          by_cases k1 : y0 = 1
          · subst k1
            have HSY : Hid (∀ W, VtAt W V (R + 1) x → Calls Try.prog 12 #[.pointer (some ⟨V, 0, none⟩)] W fun e w' => e = .returned (.tuple #[]) ∧ VtAt w' V (R + 1) (syncV x) ∧ Only V W w') := fun W h => sync_any V (R + 1) x W h (by omega)
            have HSR : Hid (∀ W, RvAt W R w.heap.size (R + 1) x → Calls Try.prog 18 #[.pointer (some ⟨R, 0, none⟩)] W fun e w' => e = .returned (.tuple #[]) ∧ RvAt w' R w.heap.size (R + 1) (syncV x) ∧ Only R W w') := fun W h => refSync_any R w.heap.size (R + 1) x W h (by omega) (by omega) (Nat.le_trans HLE.out (by omega))
            have HOK2 : Hid (VtOk (syncV x)) := syncV_ok HOK.out
            have HLE2 : Hid ((syncV x).1.length ≤ 65536) := HLE.out
            generalize syncV x = x2 at HSY HSR HOK2 HLE2
            go_wp2_with (first
              | (go_at_call 12; refine (HSY.out _ hv).mono ?_; rintro e w5 ⟨rfl, hv5, hO5⟩; have hw5 := hO5.below hw (by omega) hw.size; have hr5 := hr.only hO5 (by omega) (by omega) (by omega); have hz5 : R + 1 ≤ w5.heap.size := Nat.le_trans hz hO5.size)
              | (go_at_call 18; refine (HSR.out _ hr5).mono ?_; rintro e w6 ⟨rfl, hr6, hO6⟩; have hw6 := hO6.below hw5 (by omega) hw5.size; have hv6 := hv5.only hO6 (by omega) (by omega); have hz6 : R + 1 ≤ w6.heap.size := Nat.le_trans hz5 hO6.size))
            go_meet
            exact ⟨0, x2, rfl, rfl, HOK2, HLE2, hv6, hr6, hz6, hw6⟩
          have k0' : (y0 == 0) = false := by rw [beq_eq_false_iff_ne]; exact k0
          have k1' : (y0 == 1) = false := by rw [beq_eq_false_iff_ne]; exact k1
          have HCR : Hid (∀ W, VtAt W V (R + 1) x → R + 1 ≤ W.heap.size → Calls Try.prog 13 #[.pointer (some ⟨V, 0, none⟩), .int .i64 y6] W fun e w' => e = .returned (.tuple #[]) ∧ VtAt w' V (R + 1) (crashV x y6) ∧ Only V W w') := fun W h h2 => crash_any V (R + 1) x y6 W h (by omega) h2 HOK.out (Nat.le_trans HLE.out (by omega))
          have HCQ : Hid (∀ W, RvAt W R w.heap.size (R + 1) x → R + 1 ≤ W.heap.size → Calls Try.prog 19 #[.pointer (some ⟨R, 0, none⟩), .int .i64 y6] W fun e w' => e = .returned (.tuple #[]) ∧ RvAt w' R w.heap.size (R + 1) (crashV x y6) ∧ Only R W w') := fun W h h2 => refCrash_any R w.heap.size (R + 1) x y6 W h (by omega) (by omega) h2 HOK.out (Nat.le_trans HLE.out (by omega))
          have HOK2 : Hid (VtOk (crashV x y6)) := crashV_ok HOK.out y6
          have HLE2 : Hid ((crashV x y6).1.length ≤ 65536) := crashV_le HLE.out
          generalize crashV x y6 = x2 at HCR HCQ HOK2 HLE2
          clear k0 k1
          go_wp2_with (first
            | (go_at_call 13; refine (HCR.out _ hv hz).mono ?_; rintro e w5 ⟨rfl, hv5, hO5⟩; have hw5 := hO5.below hw (by omega) hw.size; have hr5 := hr.only hO5 (by omega) (by omega) (by omega); have hz5 : R + 1 ≤ w5.heap.size := Nat.le_trans hz hO5.size; obtain ⟨d0, d1, d2, d3, d4, d5, d6, hbw5⟩ := HC.out _ hw5)
            | (go_at_call 19; refine (HCQ.out _ hr5 hz5).mono ?_; rintro e w6 ⟨rfl, hr6, hO6⟩; have hw6 := hO6.below hw5 (by omega) hw5.size; have hv6 := hv5.only hO6 (by omega) (by omega); have hz6 : R + 1 ≤ w6.heap.size := Nat.le_trans hz5 hO6.size))
          go_meet
          exact ⟨0, x2, rfl, rfl, HOK2, HLE2, hv6, hr6, hz6, hw6⟩
        case rest =>
          obtain ⟨E, z, rfl, rfl, HOK, HLE, hv, hr, hz, hw⟩ := hcut
          obtain ⟨w4, hw4⟩ : ∃ Z, Z = wc := ⟨_, rfl⟩
          subst hw4
          clear hbw c0 c1 c2 c3 c4 c5 c6 HLG HLW hol
          have hx64 := held_le HOK.out
          obtain ⟨zs, zn, x1, x2, x3⟩ := z
          simp only at hx64
          have HLD : Hid (∀ W, VtAt W V (R + 1) (zs, zn, x1, x2, x3) → Calls Try.prog 14 #[.pointer (some ⟨V, 0, none⟩)] W (RetLoad (x1, x2, x3) W)) := fun W h => load_any V (R + 1) (zs, zn, x1, x2, x3) W h (by omega) (by show x3.length ≤ _; omega)
          have HBY : Hid (∀ W, VtAt W V (R + 1) (zs, zn, x1, x2, x3) → Calls Try.prog 21 #[.pointer (some ⟨V, 0, none⟩)] W (RetRow 5 1 zs.length (zs.map byteV) W)) := fun W h => bytes_any V (R + 1) (zs, zn, x1, x2, x3) W h (by omega) (Nat.le_trans HLE.out (by omega))
          obtain ⟨D, cd, A, c, g, p1, p2, p3, p4, p5, p6⟩ := id hr
          simp only at g p1 p2 p3 p4 p5 p6
          obtain ⟨r0, r1, r2, r3, r4, _, _, _, _, _, rlt⟩ := box5 g
          have P1 := Lib.hid p1
          have P2 := Lib.hid p2
          have P5 := Lib.hid p5
          clear p1 p2 p3 p5
          go_upto_region 22 with (go_at_call 14; refine (HLD.out _ hv).mono ?_; rintro e w5 ⟨a5, c5, rfl, own5, hb5⟩; simp only at own5; have hx5 := below2 w5 (.cells #[.int .i64 x1, .int .i64 x2] 23) (.cells #[.int .i64 0, .int .i64 0, .slice a5 x3.length c5] 26); have hbx := hb5.trans (hx5.mono hb5.size); have hl5 := (LogIn.of_own own5).below hx5; have gx := alloc2_fst w5 (.cells #[.int .i64 x1, .int .i64 x2] 23) (.cells #[.int .i64 0, .int .i64 0, .slice a5 x3.length c5] 26); have gy := alloc2_snd w5 (.cells #[.int .i64 x1, .int .i64 x2] 23) (.cells #[.int .i64 0, .int .i64 0, .slice a5 x3.length c5] 26); have hw5 := hw.trans (hbx.mono hw.size); have hv5 := hv.below hbx; have hr5 := hr.below hbx; have g5 := blk_keep hbx g)
          have HSM : Hid (∀ W, LogIn W a5 c5 x3 → LogIn W A c x3 → Calls Try.prog 20 #[.slice a5 x3.length c5, .slice A x3.length c] W fun e w' => e = .returned (.bool true) ∧ Below W.heap.size W w') := fun W h h' => by
            have := same_any a5 c5 x3 A c x3 W h.row h'.row h.max
            rwa [decide_eq_true rfl] at this
          have hl5b := P5.out.below hbx
          have hd5 := P1.out.below hbx
          generalize hX : w5.heap.size = X at *
          generalize hW5 : (w5.alloc (.cells #[.int .i64 x1, .int .i64 x2] 23)).alloc (.cells #[.int .i64 0, .int .i64 0, .slice a5 x3.length c5] 26) = W5 at *
          obtain ⟨ya, yb, yc, yf0, yf1, yf2, ylt⟩ := box3 gy
          obtain ⟨q0, q1, q2, q3, q4, _, _, _, _, _, qlt⟩ := box5 g5
          go_region_held3 (fun W => W.cell? ⟨X + 1, 2, none⟩ = some (.slice a5 x3.length c5) ∧ W.cell? ⟨R, 4, none⟩ = some (.slice A x3.length c)) (first | exact ⟨tc, t4⟩ | exact ⟨yc, q4⟩) ((go_at_call 20; refine (HSM.out _ (hl5.below (below0 _).drew) (hl5b.below (below0 _).drew)).mono ?_; rintro e w7 ⟨rfl, hb7⟩; have hb7' : Below W5.heap.size W5 w7 := (below0 _).drew.trans hb7; have hw7 := hw5.trans (hb7'.mono hw5.size); have hv7 := hv5.below hb7'; have gx7 := blk_keep hb7' gx; have gy7 := blk_keep hb7' gy; have g7 := blk_keep hb7' g5; have hr7 := hr5.below hb7'; have hd7 := hd5.below hb7'; obtain ⟨ta, tb, tc, _, _, _, tlt⟩ := box3 gy7; obtain ⟨t0, t1, t2, t3, t4, _, _, _, _, _, tlt2⟩ := box5 g7; obtain ⟨sa, sb, _, _, slt⟩ := box2 gx7))
          go_upto_region 23 with fail
          have et1 : (x1 == x1) = true := by simp
          have et2 : (x2 == x2) = true := by simp
          have et3 : (E == E) = true := by simp
          have HCV : Hid (∀ (A : Option Addr) (cc base : Nat) (W : World), W.ownsRow base 5 1 (.slice A zs.length cc) zs.length (zs.map byteV) → (convert 46 9 (.slice A zs.length cc)).run Try.prog W = .ok (.string (strOf zs)) W) := fun A cc base W h => run_convert_cells cc W (RowAt.of_own h) (own_none h)
          have hcA0 : (convert 46 9 (.slice D zs.length cd)).run Try.prog w7.drew = .ok (.string (strOf zs)) w7.drew := run_convert_cells cd _ (hd7.below (below0 _).drew) P2.out
          have HCALL : Hid (Calls Try.prog 21 #[.pointer (some ⟨V, 0, none⟩)] w7.drew fun e w11 => ∃ a11 c11, e = .returned (.slice a11 zs.length c11) ∧ (convert 46 9 (.slice a11 zs.length c11)).run Try.prog w11 = .ok (.string (strOf zs)) w11 ∧ (convert 46 9 (.slice D zs.length cd)).run Try.prog w11 = .ok (.string (strOf zs)) w11 ∧ Below w7.heap.size w7 w11) := by
            refine (HBY.out _ (show VtAt w7.drew V (R + 1) (zs, zn, x1, x2, x3) from hv7)).mono ?_
            rintro e w11 ⟨a11, c11, rfl, own11, hb11⟩
            have hb : Below w7.heap.size w7 w11 := (below0 _).drew.trans hb11
            exact ⟨a11, c11, rfl, HCV.out a11 c11 _ w11 own11, run_convert_cells cd _ (hd7.below hb) P2.out, hb⟩
          generalize strOf zs = SB at hcA0 HCALL
          have hw7' := hw7
          clear HCV
          refine wp_region_held_drew (S := fun W => W.cell? ⟨X, 0, none⟩ = some (.int .i64 x1) ∧ W.cell? ⟨X, 1, none⟩ = some (.int .i64 x2) ∧ W.cell? ⟨R, 0, none⟩ = some (.slice D zs.length cd) ∧ W.cell? ⟨R, 2, none⟩ = some (.int .i64 x1) ∧ W.cell? ⟨R, 3, none⟩ = some (.int .i64 x2) ∧ W.cell? ⟨X + 1, 0, none⟩ = some (.int .i64 0) ∧ (convert 46 9 (.slice D zs.length cd)).run Try.prog W = .ok (.string SB) W) (by kernel_rfl) ?_ (fun hHeld => ?_)
          · ((try dsimp only); first | exact ⟨sa, sb, t0, t2, t3, ta, hcA0⟩ | exact ⟨ua, ub, u0, u2, u3, va, hcA1⟩)
          refine wpAnyH_take (i := 0) (oi := { dst := some 104, op := Op.move (Operand.tmp 8), type := 31, pos := "law.go:77", after := #[], guard := none }) (v := ?_) rfl (by kernel_rfl) (by kernel_rfl) (by kernel_rfl) (fun _ _ _ h => h) (Or.inl ⟨by rfl, ?_⟩) (by assumption) ?_
          rotate_left 1
          · ((intro w hSw); (try dsimp only at hSw); go_simp; try (with_reducible rfl))
          try simp only [Act.put, List.setIfInBounds_toArray, List.set_cons_zero, List.set_cons_succ]
          refine wpAnyH_take (i := 1) (oi := { dst := some 105, op := Op.move (Operand.tmp 9), type := 31, pos := "law.go:77", after := #[], guard := none }) (v := ?_) rfl (by kernel_rfl) (by kernel_rfl) (by kernel_rfl) (fun _ _ _ h => h) (Or.inl ⟨by rfl, ?_⟩) (by assumption) ?_
          rotate_left 1
          · ((intro w hSw); (try dsimp only at hSw); go_simp; try (with_reducible rfl))
          try simp only [Act.put, List.setIfInBounds_toArray, List.set_cons_zero, List.set_cons_succ]
          refine wpAnyH_take (i := 2) (oi := { dst := some 106, op := Op.binOp BinOp.neq 31 (Operand.tmp 104) (Operand.tmp 105) 31, type := 4, pos := "law.go:77", after := #[{ on := 0, ground := Ground.data }, { on := 1, ground := Ground.data }], guard := none }) (v := ?_) rfl (by kernel_rfl) (by kernel_rfl) (by kernel_rfl) (fun _ _ _ h => h) (Or.inl ⟨by rfl, ?_⟩) (by assumption) ?_
          rotate_left 1
          · ((intro w hSw); (try dsimp only at hSw); go_simp; try (with_reducible rfl))
          try simp only [Act.put, List.setIfInBounds_toArray, List.set_cons_zero, List.set_cons_succ]
          refine wpAnyH_take (i := 3) (oi := { dst := some 107, op := Op.move (Operand.tmp 106), type := 4, pos := "law.go:77", after := #[{ on := 2, ground := Ground.data }], guard := none }) (v := ?_) rfl (by kernel_rfl) (by kernel_rfl) (by kernel_rfl) (fun _ _ _ h => h) (Or.inl ⟨by rfl, ?_⟩) (by assumption) ?_
          rotate_left 1
          · ((intro w hSw); (try dsimp only at hSw); go_simp; try (with_reducible rfl))
          try simp only [Act.put, List.setIfInBounds_toArray, List.set_cons_zero, List.set_cons_succ]
          refine wpAnyH_take (i := 4) (oi := { dst := some 108, op := Op.load 23 (Operand.tmp 10), type := 23, pos := "law.go:77", after := #[{ on := 3, ground := Ground.guard }], guard := some (3, false) }) (v := ?_) rfl (by kernel_rfl) (by kernel_rfl) (by kernel_rfl) (fun _ _ _ h => h) (Or.inl ⟨by rfl, ?_⟩) (by assumption) ?_
          rotate_left 1
          · ((intro w hSw); (try dsimp only at hSw); go_simp; try (with_reducible rfl))
          try simp only [Act.put, List.setIfInBounds_toArray, List.set_cons_zero, List.set_cons_succ]
          refine wpAnyH_take (i := 5) (oi := { dst := some 109, op := Op.move (Operand.tmp 6), type := 45, pos := "law.go:77", after := #[{ on := 3, ground := Ground.guard }], guard := some (3, false) }) (v := ?_) rfl (by kernel_rfl) (by kernel_rfl) (by kernel_rfl) (fun _ _ _ h => h) (Or.inl ⟨by rfl, ?_⟩) (by assumption) ?_
          rotate_left 1
          · ((intro w hSw); (try dsimp only at hSw); go_simp; try (with_reducible rfl))
          try simp only [Act.put, List.setIfInBounds_toArray, List.set_cons_zero, List.set_cons_succ]
          refine wpAnyH_take (i := 6) (oi := { dst := some 110, op := Op.nilCheck (Operand.tmp 109), type := 0, pos := "law.go:77", after := #[{ on := 5, ground := Ground.data }, { on := 3, ground := Ground.guard }], guard := some (3, false) }) (v := ?_) rfl (by kernel_rfl) (by kernel_rfl) (by kernel_rfl) (fun _ _ _ h => h) (Or.inl ⟨by rfl, ?_⟩) (by assumption) ?_
          rotate_left 1
          · ((intro w hSw); (try dsimp only at hSw); go_simp; try (with_reducible rfl))
          try simp only [Act.put, List.setIfInBounds_toArray, List.set_cons_zero, List.set_cons_succ]
          refine wpAnyH_take (i := 7) (oi := { dst := some 111, op := Op.fieldAddr 50 (Operand.tmp 110) 2, type := 0, pos := "law.go:77", after := #[{ on := 6, ground := Ground.data }, { on := 3, ground := Ground.guard }], guard := some (3, false) }) (v := ?_) rfl (by kernel_rfl) (by kernel_rfl) (by kernel_rfl) (fun _ _ _ h => h) (Or.inl ⟨by rfl, ?_⟩) (by assumption) ?_
          rotate_left 1
          · ((intro w hSw); (try dsimp only at hSw); go_simp; try (with_reducible rfl))
          try simp only [Act.put, List.setIfInBounds_toArray, List.set_cons_zero, List.set_cons_succ]
          refine wpAnyH_take (i := 8) (oi := { dst := some 112, op := Op.fieldAddr 48 (Operand.tmp 111) 0, type := 0, pos := "law.go:77", after := #[{ on := 7, ground := Ground.data }, { on := 3, ground := Ground.guard }], guard := some (3, false) }) (v := ?_) rfl (by kernel_rfl) (by kernel_rfl) (by kernel_rfl) (fun _ _ _ h => h) (Or.inl ⟨by rfl, ?_⟩) (by assumption) ?_
          rotate_left 1
          · ((intro w hSw); (try dsimp only at hSw); go_simp; try (with_reducible rfl))
          try simp only [Act.put, List.setIfInBounds_toArray, List.set_cons_zero, List.set_cons_succ]
          refine wpAnyH_take (i := 9) (oi := { dst := some 113, op := Op.load 23 (Operand.tmp 112), type := 23, pos := "law.go:77", after := #[{ on := 8, ground := Ground.data }, { on := 3, ground := Ground.guard }], guard := some (3, false) }) (v := ?_) rfl (by kernel_rfl) (by kernel_rfl) (by kernel_rfl) (fun _ _ _ h => h) (Or.inl ⟨by rfl, ?_⟩) (by assumption) ?_
          rotate_left 1
          · ((intro w hSw); (try dsimp only at hSw); go_simp; try (with_reducible rfl))
          try simp only [Act.put, List.setIfInBounds_toArray, List.set_cons_zero, List.set_cons_succ]
          refine wpAnyH_take (i := 10) (oi := { dst := some 114, op := Op.binOp BinOp.neq 23 (Operand.tmp 108) (Operand.tmp 113) 23, type := 4, pos := "law.go:77", after := #[{ on := 4, ground := Ground.data }, { on := 9, ground := Ground.data }, { on := 3, ground := Ground.guard }], guard := some (3, false) }) (v := ?_) rfl (by kernel_rfl) (by kernel_rfl) (by kernel_rfl) (fun _ _ _ h => h) (Or.inl ⟨by rfl, ?_⟩) (by assumption) ?_
          rotate_left 1
          · ((intro w hSw); (try dsimp only at hSw); go_simp; try (with_reducible rfl))
          try simp only [Act.put, List.setIfInBounds_toArray, List.set_cons_zero, List.set_cons_succ]
          refine wpAnyH_take (i := 11) (oi := { dst := some 115, op := Op.pick (Operand.tmp 107) (Operand.const (Value.bool true)) (Operand.tmp 114), type := 4, pos := "law.go:77", after := #[{ on := 3, ground := Ground.data }, { on := 10, ground := Ground.data }], guard := none }) (v := ?_) rfl (by kernel_rfl) (by kernel_rfl) (by kernel_rfl) (fun _ _ _ h => h) (Or.inl ⟨by rfl, ?_⟩) (by assumption) ?_
          rotate_left 1
          · ((intro w hSw); (try dsimp only at hSw); go_simp; try (with_reducible rfl))
          try simp only [Act.put, List.setIfInBounds_toArray, List.set_cons_zero, List.set_cons_succ]
          refine wpAnyH_take (i := 12) (oi := { dst := some 116, op := Op.move (Operand.tmp 115), type := 4, pos := "law.go:77", after := #[{ on := 11, ground := Ground.data }, { on := 3, ground := Ground.chain }], guard := none }) (v := ?_) rfl (by kernel_rfl) (by kernel_rfl) (by kernel_rfl) (fun _ _ _ h => h) (Or.inl ⟨by rfl, ?_⟩) (by assumption) ?_
          rotate_left 1
          · ((intro w hSw); (try dsimp only at hSw); go_simp; try (with_reducible rfl))
          try simp only [Act.put, List.setIfInBounds_toArray, List.set_cons_zero, List.set_cons_succ]
          refine wpAnyH_take (i := 13) (oi := { dst := some 117, op := Op.move (Operand.tmp 12), type := 4, pos := "law.go:77", after := #[{ on := 12, ground := Ground.guard }], guard := some (12, false) }) (v := ?_) rfl (by kernel_rfl) (by kernel_rfl) (by kernel_rfl) (fun _ _ _ h => h) (Or.inl ⟨by rfl, ?_⟩) (by assumption) ?_
          rotate_left 1
          · ((intro w hSw); (try dsimp only at hSw); go_simp; try (with_reducible rfl))
          try simp only [Act.put, List.setIfInBounds_toArray, List.set_cons_zero, List.set_cons_succ]
          refine wpAnyH_take (i := 14) (oi := { dst := some 118, op := Op.unOp UnOp.not 4 (Operand.tmp 117), type := 4, pos := "law.go:77", after := #[{ on := 13, ground := Ground.data }, { on := 12, ground := Ground.guard }], guard := some (12, false) }) (v := ?_) rfl (by kernel_rfl) (by kernel_rfl) (by kernel_rfl) (fun _ _ _ h => h) (Or.inl ⟨by rfl, ?_⟩) (by assumption) ?_
          rotate_left 1
          · ((intro w hSw); (try dsimp only at hSw); go_simp; try (with_reducible rfl))
          try simp only [Act.put, List.setIfInBounds_toArray, List.set_cons_zero, List.set_cons_succ]
          refine wpAnyH_take (i := 15) (oi := { dst := some 119, op := Op.pick (Operand.tmp 116) (Operand.const (Value.bool true)) (Operand.tmp 118), type := 4, pos := "law.go:77", after := #[{ on := 12, ground := Ground.data }, { on := 14, ground := Ground.data }], guard := none }) (v := ?_) rfl (by kernel_rfl) (by kernel_rfl) (by kernel_rfl) (fun _ _ _ h => h) (Or.inl ⟨by rfl, ?_⟩) (by assumption) ?_
          rotate_left 1
          · ((intro w hSw); (try dsimp only at hSw); go_simp; try (with_reducible rfl))
          try simp only [Act.put, List.setIfInBounds_toArray, List.set_cons_zero, List.set_cons_succ]
          refine wpAnyH_take (i := 16) (oi := { dst := some 120, op := Op.move (Operand.tmp 119), type := 4, pos := "law.go:77", after := #[{ on := 15, ground := Ground.data }, { on := 12, ground := Ground.chain }], guard := none }) (v := ?_) rfl (by kernel_rfl) (by kernel_rfl) (by kernel_rfl) (fun _ _ _ h => h) (Or.inl ⟨by rfl, ?_⟩) (by assumption) ?_
          rotate_left 1
          · ((intro w hSw); (try dsimp only at hSw); go_simp; try (with_reducible rfl))
          try simp only [Act.put, List.setIfInBounds_toArray, List.set_cons_zero, List.set_cons_succ]
          refine wpAnyH_take (i := 17) (oi := { dst := some 121, op := Op.fieldAddr 26 (Operand.tmp 11) 0, type := 0, pos := "law.go:77", after := #[{ on := 16, ground := Ground.guard }], guard := some (16, false) }) (v := ?_) rfl (by kernel_rfl) (by kernel_rfl) (by kernel_rfl) (fun _ _ _ h => h) (Or.inl ⟨by rfl, ?_⟩) (by assumption) ?_
          rotate_left 1
          · ((intro w hSw); (try dsimp only at hSw); go_simp; try (with_reducible rfl))
          try simp only [Act.put, List.setIfInBounds_toArray, List.set_cons_zero, List.set_cons_succ]
          refine wpAnyH_take (i := 18) (oi := { dst := some 122, op := Op.load 3 (Operand.tmp 121), type := 3, pos := "law.go:77", after := #[{ on := 17, ground := Ground.data }, { on := 16, ground := Ground.guard }], guard := some (16, false) }) (v := ?_) rfl (by kernel_rfl) (by kernel_rfl) (by kernel_rfl) (fun _ _ _ h => h) (Or.inl ⟨by rfl, ?_⟩) (by assumption) ?_
          rotate_left 1
          · ((intro w hSw); (try dsimp only at hSw); go_simp; try (with_reducible rfl))
          try simp only [Act.put, List.setIfInBounds_toArray, List.set_cons_zero, List.set_cons_succ]
          refine wpAnyH_take (i := 19) (oi := { dst := some 123, op := Op.binOp BinOp.neq 3 (Operand.tmp 122) (Operand.const (Value.int IntKind.i64 0)) 3, type := 4, pos := "law.go:77", after := #[{ on := 18, ground := Ground.data }, { on := 16, ground := Ground.guard }], guard := some (16, false) }) (v := ?_) rfl (by kernel_rfl) (by kernel_rfl) (by kernel_rfl) (fun _ _ _ h => h) (Or.inl ⟨by rfl, ?_⟩) (by assumption) ?_
          rotate_left 1
          · ((intro w hSw); (try dsimp only at hSw); go_simp; try (with_reducible rfl))
          try simp only [Act.put, List.setIfInBounds_toArray, List.set_cons_zero, List.set_cons_succ]
          refine wpAnyH_take (i := 20) (oi := { dst := some 124, op := Op.pick (Operand.tmp 120) (Operand.const (Value.bool true)) (Operand.tmp 123), type := 4, pos := "law.go:77", after := #[{ on := 16, ground := Ground.data }, { on := 19, ground := Ground.data }], guard := none }) (v := ?_) rfl (by kernel_rfl) (by kernel_rfl) (by kernel_rfl) (fun _ _ _ h => h) (Or.inl ⟨by rfl, ?_⟩) (by assumption) ?_
          rotate_left 1
          · ((intro w hSw); (try dsimp only at hSw); go_simp; try (with_reducible rfl))
          try simp only [Act.put, List.setIfInBounds_toArray, List.set_cons_zero, List.set_cons_succ]
          refine wpAnyH_take (i := 21) (oi := { dst := some 125, op := Op.move (Operand.tmp 124), type := 4, pos := "law.go:77", after := #[{ on := 20, ground := Ground.data }, { on := 16, ground := Ground.chain }], guard := none }) (v := ?_) rfl (by kernel_rfl) (by kernel_rfl) (by kernel_rfl) (fun _ _ _ h => h) (Or.inl ⟨by rfl, ?_⟩) (by assumption) ?_
          rotate_left 1
          · ((intro w hSw); (try dsimp only at hSw); go_simp; try (with_reducible rfl))
          try simp only [Act.put, List.setIfInBounds_toArray, List.set_cons_zero, List.set_cons_succ]
          refine wpAnyH_take (i := 22) (oi := { dst := some 126, op := Op.move (Operand.tmp 5), type := 29, pos := "law.go:77", after := #[{ on := 21, ground := Ground.guard }], guard := some (21, false) }) (v := ?_) rfl (by kernel_rfl) (by kernel_rfl) (by kernel_rfl) (fun _ _ _ h => h) (Or.inl ⟨by rfl, ?_⟩) (by assumption) ?_
          rotate_left 1
          · ((intro w hSw); (try dsimp only at hSw); go_simp; try (with_reducible rfl))
          try simp only [Act.put, List.setIfInBounds_toArray, List.set_cons_zero, List.set_cons_succ]
          refine wpAnyH_take (i := 25) (oi := { dst := some 129, op := Op.move (Operand.tmp 6), type := 45, pos := "law.go:77", after := #[{ on := 21, ground := Ground.guard }], guard := some (21, false) }) (v := ?_) rfl (by kernel_rfl) (by kernel_rfl) (by kernel_rfl) (fun _ _ _ h => h) (Or.inl ⟨by rfl, ?_⟩) (by assumption) ?_
          rotate_left 1
          · ((intro w hSw); (try dsimp only at hSw); go_simp; try (with_reducible rfl))
          try simp only [Act.put, List.setIfInBounds_toArray, List.set_cons_zero, List.set_cons_succ]
          refine wpAnyH_take (i := 26) (oi := { dst := some 130, op := Op.nilCheck (Operand.tmp 129), type := 0, pos := "law.go:77", after := #[{ on := 25, ground := Ground.data }, { on := 21, ground := Ground.guard }], guard := some (21, false) }) (v := ?_) rfl (by kernel_rfl) (by kernel_rfl) (by kernel_rfl) (fun _ _ _ h => h) (Or.inl ⟨by rfl, ?_⟩) (by assumption) ?_
          rotate_left 1
          · ((intro w hSw); (try dsimp only at hSw); go_simp; try (with_reducible rfl))
          try simp only [Act.put, List.setIfInBounds_toArray, List.set_cons_zero, List.set_cons_succ]
          refine wpAnyH_take (i := 27) (oi := { dst := some 131, op := Op.fieldAddr 50 (Operand.tmp 130) 0, type := 0, pos := "law.go:77", after := #[{ on := 26, ground := Ground.data }, { on := 21, ground := Ground.guard }], guard := some (21, false) }) (v := ?_) rfl (by kernel_rfl) (by kernel_rfl) (by kernel_rfl) (fun _ _ _ h => h) (Or.inl ⟨by rfl, ?_⟩) (by assumption) ?_
          rotate_left 1
          · ((intro w hSw); (try dsimp only at hSw); go_simp; try (with_reducible rfl))
          try simp only [Act.put, List.setIfInBounds_toArray, List.set_cons_zero, List.set_cons_succ]
          refine wpAnyH_take (i := 28) (oi := { dst := some 132, op := Op.load 46 (Operand.tmp 131), type := 46, pos := "law.go:77", after := #[{ on := 27, ground := Ground.data }, { on := 21, ground := Ground.guard }], guard := some (21, false) }) (v := ?_) rfl (by kernel_rfl) (by kernel_rfl) (by kernel_rfl) (fun _ _ _ h => h) (Or.inl ⟨by rfl, ?_⟩) (by assumption) ?_
          rotate_left 1
          · ((intro w hSw); (try dsimp only at hSw); go_simp; try (with_reducible rfl))
          try simp only [Act.put, List.setIfInBounds_toArray, List.set_cons_zero, List.set_cons_succ]
          refine wpAnyH_take (i := 29) (oi := { dst := some 133, op := Op.convert 46 9 (Operand.tmp 132), type := 9, pos := "law.go:77", after := #[{ on := 28, ground := Ground.data }, { on := 21, ground := Ground.guard }], guard := some (21, false) }) (v := ?_) rfl (by kernel_rfl) (by kernel_rfl) (by kernel_rfl) (fun _ _ _ h => h) (Or.inl ⟨by rfl, ?_⟩) (by assumption) ?_
          rotate_left 1
          · ((intro w hSw); (try dsimp only at hSw); go_simp; try (with_reducible rfl))
          try simp only [Act.put, List.setIfInBounds_toArray, List.set_cons_zero, List.set_cons_succ]
          refine wpAnyH_ready (rs := [23]) (by kernel_rfl) (by simp) ?_
          refine AllReadyH.cons (o := { dst := some 127, op := Op.call { callee := Callee.value (Operand.func 21), args := #[Operand.tmp 126], argTypes := #[29] }, type := 46, pos := "law.go:77", after := #[{ on := 22, ground := Ground.data }, { on := 21, ground := Ground.chain }, { on := 21, ground := Ground.guard }], guard := some (21, false) }) rfl (fun K hK => ?_) ?_
          rotate_left 1
          · exact AllReadyH.nil
          go_simp
          (go_at_call 21; refine HCALL.out.mono ?_; rintro e w11 ⟨a11, c11, rfl, hcB, hcA1, hb11⟩; have hw11 := hw7.trans (hb11.mono hw7.size); have hz11 := Nat.le_trans hz (Nat.le_trans hbx.size (Nat.le_trans hb7'.size hb11.size)); obtain ⟨ua, ub, _, _, ult⟩ := box2 (blk_keep hb11 gx7); obtain ⟨va, _⟩ := box3 (blk_keep hb11 gy7); obtain ⟨u0, u1, u2, u3, u4, _, _, _, _, _, ult2⟩ := box5 (blk_keep hb11 g7); have hv11 := hv7.below hb11; have hr11 := hr7.below hb11)
          refine hK.out _ _ ?_ (fun hHeld => ?_)
          · ((try dsimp only); first | exact ⟨sa, sb, t0, t2, t3, ta, hcA0⟩ | exact ⟨ua, ub, u0, u2, u3, va, hcA1⟩)
          clear hK K
          try simp only [Act.put, List.setIfInBounds_toArray, List.set_cons_zero, List.set_cons_succ]
          refine wpAnyH_ready (rs := [24]) (by kernel_rfl) (by simp) ?_
          refine AllReadyH.cons (o := { dst := some 128, op := Op.convert 46 9 (Operand.tmp 127), type := 9, pos := "law.go:77", after := #[{ on := 23, ground := Ground.data }, { on := 21, ground := Ground.guard }], guard := some (21, false) }) rfl (fun K hK => ?_) ?_
          rotate_left 1
          · exact AllReadyH.nil
          go_simp
          try skip
          refine hK.out _ _ ?_ (fun hHeld => ?_)
          · ((try dsimp only); first | exact ⟨sa, sb, t0, t2, t3, ta, hcA0⟩ | exact ⟨ua, ub, u0, u2, u3, va, hcA1⟩)
          clear hK K
          try simp only [Act.put, List.setIfInBounds_toArray, List.set_cons_zero, List.set_cons_succ]
          refine wpAnyH_take (i := 30) (oi := { dst := some 134, op := Op.binOp BinOp.neq 9 (Operand.tmp 128) (Operand.tmp 133) 9, type := 4, pos := "law.go:77", after := #[{ on := 24, ground := Ground.data }, { on := 29, ground := Ground.data }, { on := 21, ground := Ground.guard }], guard := some (21, false) }) (v := ?_) rfl (by kernel_rfl) (by kernel_rfl) (by kernel_rfl) (fun _ _ _ h => h) (Or.inl ⟨by rfl, ?_⟩) (by assumption) ?_
          rotate_left 1
          · ((intro w hSw); (try dsimp only at hSw); go_simp; try (with_reducible rfl))
          try simp only [Act.put, List.setIfInBounds_toArray, List.set_cons_zero, List.set_cons_succ]
          refine wpAnyH_take (i := 31) (oi := { dst := some 135, op := Op.pick (Operand.tmp 125) (Operand.const (Value.bool true)) (Operand.tmp 134), type := 4, pos := "law.go:77", after := #[{ on := 21, ground := Ground.data }, { on := 30, ground := Ground.data }], guard := none }) (v := ?_) rfl (by kernel_rfl) (by kernel_rfl) (by kernel_rfl) (fun _ _ _ h => h) (Or.inl ⟨by rfl, ?_⟩) (by assumption) ?_
          rotate_left 1
          · ((intro w hSw); (try dsimp only at hSw); go_simp; try (with_reducible rfl))
          try simp only [Act.put, List.setIfInBounds_toArray, List.set_cons_zero, List.set_cons_succ]
          refine wpAnyH_done (by kernel_rfl) ?_ _
          go_wp2
          exact ⟨⟨k + 1, (zs, zn, x1, x2, x3), by omega, by simp, HOK, HLE, hv11, hr11, by omega, hw11⟩, by simp [intOf]; omega⟩
      · have hk1 : ¬ (k : Int) < (ms.length : Int) := by omega
        go_wp2
        go_ret
        exact ⟨rfl, hw⟩
end Go.Proofs.Ytnbljcbfnplbaaa
