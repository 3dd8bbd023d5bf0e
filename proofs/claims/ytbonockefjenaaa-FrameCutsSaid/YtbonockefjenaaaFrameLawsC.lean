/-
  The walk of the law FrameGets: what Get and Run answer is what the document says.
-/
import Derived.Test.YtbonockefjenaaaFrameRunB
import Derived.Test.YtbonockefjenaaaFrameLawsB
namespace Go.Proofs.Ytbonockefjenaaa
open Go.RowKit
theorem frames_one {w : World} {a : Option Addr} {c : Nat} {K : Int} {D : List UInt8} (h1 : CellsB w a D) (h2 : a = none → D.length = 0) (h3 : D.length ≤ c) (b : Nat) (hb : RowAt w (some ⟨b, 0, none⟩) [.int .i64 K, .slice a D.length c]) : FramesIn w (some ⟨b, 0, none⟩) 1 [(K, D)] :=
  ⟨⟨_, hb, ⟨rfl, a, c, rfl, h2, h3, h1, fun _ _ _ _ => trivial⟩, trivial⟩, Nat.le_refl _, fun h => by cases h⟩
set_option maxHeartbeats 3200000 in
theorem frameGets_walk (a : Option Addr) (cap : Nat) (bs : List UInt8) (w : World) (hb : CellsB w a bs) (hcap : bs.length ≤ cap) (hz : a = none → bs.length = 0) :
    Calls Try.prog 6 #[.slice a bs.length cap] w fun e w' => e = .returned (.bool true) ∧ Below w.heap.size w w' := by
  have HZ := Lib.hid hz
  clear hz
  by_cases h1 : (6000 : Int) < (bs.length : Int)
  · clear hb
    go_enter Try.func6, Try.ntmps6
    go_wp2_with (go_at_call 10; refine (frameAwake_any _).mono ?_; rintro e w1 ⟨rfl, hb1⟩)
    go_ret
    exact ⟨rfl, hb1⟩
  · have HG : Hid (∀ W, CellsB W a bs → Calls Try.prog 13 #[.slice a bs.length cap] W (RetGet (getF bs) (getN bs) (getE bs) W)) := fun W h => get_any a cap bs W h hcap (by omega)
    have HR : Hid (∀ W, CellsB W a bs → Calls Try.prog 14 #[.slice a bs.length cap] W (RetGet (getF bs) (getN bs) (getE bs) W)) := fun W h => refGet_any a cap bs W h hcap HZ.out (by omega)
    have HG2 : Hid (∀ W, CellsB W a bs → Calls Try.prog 15 #[.slice a bs.length cap] W (RetRun (run bs) W)) := fun W h => run_any a cap bs W h hcap (by omega)
    have HR2 : Hid (∀ W, CellsB W a bs → Calls Try.prog 16 #[.slice a bs.length cap] W (RetRun (run bs) W)) := fun W h => refRun_any a cap bs W h hcap HZ.out (by omega)
    have hrl : (run bs).1.length ≤ 1000000 := by have := run_many bs; omega
    have HS : Hid (∀ W b1 b2, FramesIn W (some ⟨b1, 0, none⟩) 1 [getF bs] → FramesIn W (some ⟨b2, 0, none⟩) 1 [getF bs] → Calls Try.prog 17 #[.slice (some ⟨b1, 0, none⟩) 1 1, .slice (some ⟨b2, 0, none⟩) 1 1] W fun e w' => e = .returned (.bool true) ∧ Below W.heap.size W w') := fun W b1 b2 h1 h2 => by
      have := same_any (some ⟨b1, 0, none⟩) 1 [getF bs] (some ⟨b2, 0, none⟩) 1 [getF bs] W h1 h2 (by simp)
      simpa using this
    have HS2 : Hid (∀ W A c A2 c2, FramesIn W A c (run bs).1 → FramesIn W A2 c2 (run bs).1 → Calls Try.prog 17 #[.slice A (run bs).1.length c, .slice A2 (run bs).1.length c2] W fun e w' => e = .returned (.bool true) ∧ Below W.heap.size W w') := fun W A c A2 c2 h1 h2 => by
      have := same_any A c (run bs).1 A2 c2 (run bs).1 W h1 h2 hrl
      simpa using this
    generalize getF bs = f at HG HR HS
    generalize getE bs = E at HG HR
    generalize getN bs = N at HG HR
    obtain ⟨K, D⟩ := f
    generalize run bs = r at HG2 HR2 HS2
    obtain ⟨fs, n2, e2⟩ := r
    clear hrl
    go_enter Try.func6, Try.ntmps6
    go_wp2_with (first
      | (go_at_call 10; refine (frameAwake_any _).mono ?_; rintro e w1 ⟨rfl, hb1⟩)
      | (go_at_call 13; refine (HG.out _ (hb.below hb1)).mono ?_; rintro e w2 ⟨a2, c2, rfl, hcl2, hn2, ⟨hle2, _⟩, hd2⟩; have hb2 := (bt hb1 hd2).alloc (bt hb1 hd2).size (.cells #[.int .i64 K, .slice a2 D.length c2] 24))
      | (go_at_call 14; refine (HR.out _ (hb.below hb2)).mono ?_; rintro e w3 ⟨a3, c3, rfl, hcl3, hn3, ⟨hle3, _⟩, hd3⟩; have hb3 := (bt hb2 hd3).alloc (bt hb2 hd3).size (.cells #[.int .i64 K, .slice a3 D.length c3] 24))
      | (go_at_call 15; refine (HG2.out _ (hb.below hb3)).mono ?_; rintro e w4 ⟨a4, c4, rfl, hf4, hd4⟩; have hb4 := bt hb3 hd4)
      | (go_at_call 16; refine (HR2.out _ (hb.below hb4)).mono ?_; rintro e w5 ⟨a5, c5, rfl, hf5, hd5⟩; have hb5 := bt hb4 hd5; obtain ⟨hc30, hc31, _, _, hlt3⟩ := two_cells (bt hd4 hd5); obtain ⟨hc20, hc21, _, _, hlt2⟩ := two_cells (bt (bt hd3 ((Below.refl _ _).alloc (Nat.le_refl _) (.cells #[.int .i64 K, .slice a3 D.length c3] 24))) (bt hd4 hd5))))
    have hA : Below w3.heap.size w3 w5 := alloc_below (bt hd4 hd5)
    have hB : Below w2.heap.size w2 w5 := alloc_below (bt hd3 hA)
    have hC : Below w5.heap.size w5 ((w5.alloc (.cells #[.int .i64 K, .slice a2 D.length c2] 24)).alloc (.cells #[.int .i64 K, .slice a3 D.length c3] 24)) := ((Below.refl _ _).alloc (Nat.le_refl _) _).alloc (by simp) _
    have hrow1 := (RowAt.new w5 #[.int .i64 K, .slice a2 D.length c2] 24).alloc (.cells #[.int .i64 K, .slice a3 D.length c3] 24)
    have hrow2 := RowAt.new (w5.alloc (.cells #[.int .i64 K, .slice a2 D.length c2] 24)) #[.int .i64 K, .slice a3 D.length c3] 24
    have hsz : (w5.alloc (.cells #[.int .i64 K, .slice a2 D.length c2] 24)).heap.size = w5.heap.size + 1 := by simp
    rw [hsz] at hrow2
    refine (HS.out _ w5.heap.size (w5.heap.size + 1) (frames_one ((hcl2.below hB).below hC) hn2 hle2 _ hrow1) (frames_one ((hcl3.below hA).below hC) hn3 hle3 _ hrow2)).mono ?_
    rintro e w6 ⟨rfl, hd6⟩
    have hb6 := bt (bt hb5 hC) hd6
    have h56 := bt hC hd6
    clear hc30 hc31 hc20 hc21 hsz
    go_wp2_with fail
    refine (HS2.out _ a4 c4 a5 c5 ((hf4.below hd5).below h56) (hf5.below h56)).mono ?_
    rintro e w7 ⟨rfl, hd7⟩
    have hb7 := bt hb6 hd7
    go_wp2_with fail
    go_ret
    exact ⟨by simp, hb7⟩
end Go.Proofs.Ytbonockefjenaaa
