/-
  The contracts of layer 3's functions: the frames that bytes begin with, as the document has them; whether two lists are the same.
-/
import Derived.Test.YtbonockefjenaaaFrameRun
namespace Go.Proofs.Ytbonockefjenaaa
open Go.RowKit

/-- One frame more behind those that were run: nothing but new blocks in between. -/
theorem frames_stepG {wr w4 W5 w6 : World} {K : Int} {D : List UInt8} {a4 : Option Addr} {c4 : Nat} {v v' : Value} {xs : List Value} {fs : List Fr}
    (hfs : FramesAt (fun b => some b ≠ v.ownBlock) wr xs fs) (hd4 : Below wr.heap.size wr w4) (hv : ∀ g, v.ownBlock = some g → g < wr.heap.size)
    (hcells : CellsB w4 a4 D) (hnone : a4 = none → D.length = 0) (hle : D.length ≤ c4) (hfar : D.length ≠ 0 → ∀ b off, a4 = some ⟨b, off, none⟩ → wr.heap.size ≤ b)
    (h5 : Below w4.heap.size w4 W5) (hg : W5.grownBy w6 v.ownBlock) (hat : v'.ownBlock = v.ownBlock ∨ v'.ownBlock = some W5.heap.size) :
    FramesAt (fun b => some b ≠ v'.ownBlock) w6 (xs ++ [.int .i64 K, .slice a4 D.length c4]) (fs ++ [(K, D)]) := by
  have hz := h5.size
  have h4 : FramesAt (fun b => some b ≠ v.ownBlock) w4 (xs ++ [.int .i64 K, .slice a4 D.length c4]) (fs ++ [(K, D)]) :=
    (hfs.below hd4).snoc ⟨rfl, a4, c4, rfl, hnone, hle, hcells, fun h0 b off ha => by
      have hb := hfar h0 b off ha
      intro e
      have := hv b e.symm
      omega⟩
  have hs := hg.size
  refine h4.keep (by omega) (fun b o' hb hS => ?_) fun b hb hS => fun e => ?_
  · exact (World.cell?_of_block (hg.block b (by omega) hS)).trans ((bcell h5).1 b o' hb)
  · rcases hat with h | h
    · exact hS (e.trans h)
    · rw [h] at e
      injection e with e
      omega
set_option maxHeartbeats 3200000 in
theorem refRun_any (a : Option Addr) (cap : Nat) (bs : List UInt8) (w : World) (hb : CellsB w a bs) (hcap : bs.length ≤ cap) (hz : a = none → bs.length = 0) (hl : bs.length ≤ 900000) :
    Calls Try.prog 16 #[.slice a bs.length cap] w (RetRun (run bs) w) := by
  have HZ := Lib.hid hz
  clear hz
  go_enter Try.func16, Try.ntmps16
  go_wp2
  go_loopw [5, 6] (fun v i wr => ∃ (k : Nat) (fs : List Fr) (xs : List Value) (aL : Option Addr) (cL : Nat), k ≤ bs.length ∧ fs.length * 8 ≤ k ∧ i = .int .i64 k ∧ v = .slice aL fs.length cL ∧ Hid (run bs = (fs ++ (run (bs.drop k)).1, k + (run (bs.drop k)).2.1, (run (bs.drop k)).2.2)) ∧ wr.ownsRow w.heap.size 24 2 (.slice aL fs.length cL) fs.length xs ∧ FramesAt (fun b => some b ≠ (Value.slice aL fs.length cL).ownBlock) wr xs fs ∧ Below w.heap.size w wr) (fun _ i _ => bs.length - (intOf i).toNat)
  case atStart => exact ⟨0, [], [], none, 0, by omega, by simp, rfl, rfl, by rw [Hid]; simp, World.ownsRow_nil _ _ _ _, trivial, Below.refl _ _⟩
  case round =>
    obtain ⟨k, fs, xs, aL, cL, hk, hfk, rfl, rfl, HRUN, hown, hfs, hbw⟩ := hrel
    by_cases hend : k < bs.length
    · have hs2 := fun W => slice_from a bs.length cap k hk W
      have hk0 : (0 : Int) ≤ (k : Int) := by omega
      have hk1 : (k : Int) ≤ (bs.length : Int) := by omega
      have HG : Hid (∀ W, CellsB W a bs → Calls Try.prog 14 #[.slice (cutA a cap k) (bs.length - k) (cap - k)] W (RetGet (getF (bs.drop k)) (getN (bs.drop k)) (getE (bs.drop k)) W)) := fun W h => by
        have hl2 : (bs.drop k).length = bs.length - k := List.length_drop
        have := refGet_any (cutA a cap k) (cap - k) (bs.drop k) W (h.cut cap k hcap) (by rw [hl2]; omega) (by rw [hl2]; exact cutA_none HZ.out) (by rw [hl2]; omega)
        rwa [hl2] at this
      by_cases he : getE (bs.drop k) = 0
      · have hn := getN_pos he
        have hnl : k + getN (bs.drop k) ≤ bs.length := by have h2 : (bs.drop k).length = bs.length - k := List.length_drop; omega
        have hn8 : 8 ≤ getN (bs.drop k) := hn.1
        have HR2 := Lib.hid (run_at_ok he HRUN.out)
        rw [he] at HG
        clear he hn
        generalize getN (bs.drop k) = n at HG HR2 hnl hn8
        generalize getF (bs.drop k) = f at HG HR2
        obtain ⟨K, D⟩ := f
        go_wp2_with (first
          | (go_at_call 14; refine (HG.out _ (hb.below hbw)).mono ?_; rintro e w4 ⟨a4, c4, rfl, hcells, hnone, ⟨hle, hfar⟩, hd4⟩)
          | (at_builtin; refine wpList_append_row rfl (.tmp 27) (.tmp 29) rfl elemF w.heap.size (.slice aL fs.length cL) fs.length xs (by rfl) (((own_below hown hd4).alloc _).alloc _) (some ⟨w4.heap.size + 1, 0, none⟩) 1 1 [.int .i64 K, .slice a4 D.length c4] (by rfl) (by rfl) (by have h := RowAt.new (w4.alloc (.cells #[.int .i64 K, .slice a4 D.length c4] 24)) #[.int .i64 K, .slice a4 D.length c4] 24; simpa using h) (frame_one _ _ rfl rfl) (by unfold maxLen; omega) (by omega) (by simp; have := hbw.size; have := hd4.size; omega) (by simp) ?_; intro a6 c6 w6 hown6 hg6 hat6))
        have h5 : Below w4.heap.size w4 ((w4.alloc (.cells #[.int .i64 K, .slice a4 D.length c4] 24)).alloc (.cells #[.int .i64 K, .slice a4 D.length c4] 24)) := ((Below.refl _ _).alloc (Nat.le_refl _) _).alloc (by simp) _
        have hfs6 := frames_stepG (K := K) hfs hd4 (own_lt hown) hcells hnone hle hfar h5 hg6 hat6
        have hb6 : Below w.heap.size w w6 := Below.appended (bt (bt hbw hd4) h5) (((own_below hown hd4).alloc _).alloc _) hg6 (bt (bt hbw hd4) h5).size (Nat.le_refl _)
        obtain ⟨f6, hf6⟩ : ∃ f6, f6 = fs ++ [(K, D)] := ⟨_, rfl⟩
        have hl6 : fs.length + 1 = f6.length := by rw [hf6]; simp
        rw [← hf6] at hfs6 HR2
        rw [hl6] at hown6 hfs6
        have HF6 := Lib.hid hf6
        have HL6 := Lib.hid hl6
        clear hf6 hl6 hfs hown hg6 hat6 hcells
        go_wp2
        rw [HL6.out]
        go_roundw
        case rel => exact ⟨k + n, f6, _, a6, c6, hnl, by have := HL6.out; omega, by go_num, rfl, HR2, hown6, hfs6, hb6⟩
        case measure => simp [intOf]; omega
      · have hne : (getE (bs.drop k) != 0) = true := by simpa using he
        have HR2 := Lib.hid (run_at_err hend he HRUN.out)
        clear he
        generalize getE (bs.drop k) = E at HG HR2 hne
        generalize getF (bs.drop k) = f at HG
        obtain ⟨K, D⟩ := f
        go_wp2_with (go_at_call 14; refine (HG.out _ (hb.below hbw)).mono ?_; rintro e w4 ⟨a4, c4, rfl, hcells, hnone, _, hd4⟩)
        refine bodyPost_ret (v := .tuple #[.slice aL fs.length cL, .int .i64 k, .int .i64 E]) (by simp [results, Try.results16]) rfl ?_
        rw [HR2.out]
        exact ⟨aL, cL, rfl, ⟨⟨xs, (RowAt.of_own (own_below hown hd4)).alloc _, ((hfs.below hd4).below ((Below.refl _ _).alloc (Nat.le_refl _) _)).any⟩, own_le hown, own_none hown⟩, (bt hbw hd4).alloc (bt hbw hd4).size _⟩
    · have hek : k = bs.length := by omega
      have HE := Lib.hid hek
      clear hek
      go_wp2
      refine bodyPost_ret (v := .tuple #[.slice aL fs.length cL, .int .i64 k, .int .i64 0]) (by simp [results, Try.results16]) rfl ?_
      rw [run_at_end HE.out HRUN.out]
      exact ⟨aL, cL, rfl, ⟨⟨xs, RowAt.of_own hown, hfs.any⟩, own_le hown, own_none hown⟩, hbw⟩
theorem fr_eq_all {α : Type} {fs gs : List α} (h : fs.length = gs.length) (ht : fs.take fs.length = gs.take fs.length) : fs = gs := by
  rw [List.take_length] at ht
  rw [h, List.take_length] at ht
  exact ht
theorem fr_take_succ {α : Type} {fs gs : List α} {k : Nat} {f : α} (h1 : fs[k]? = some f) (h2 : gs[k]? = some f) (ht : fs.take k = gs.take k) : fs.take (k + 1) = gs.take (k + 1) := by
  rw [List.take_add_one, List.take_add_one, ht, h1, h2]
theorem fr_ne {α : Type} {fs gs : List α} {k : Nat} {f g : α} (h1 : fs[k]? = some f) (h2 : gs[k]? = some g) (h : f ≠ g) : fs ≠ gs := fun e => h (by rw [e, h2] at h1; exact (Option.some.inj h1).symm)
/-- One frame of a slice that is read: its two cells, its body as a string. -/
theorem FramesIn.at {w : World} {a : Option Addr} {cap : Nat} {fs : List Fr} (h : FramesIn w a cap fs) {i : Nat} (hi : i < fs.length) :
    ∃ b off A c, a = some ⟨b, off, none⟩ ∧ w.cell? ⟨b, off + i * 2, none⟩ = some (.int .i64 (fs[i]'hi).1) ∧ w.cell? ⟨b, off + i * 2 + 1, none⟩ = some (.slice A (fs[i]'hi).2.length c) ∧ CellsB w A (fs[i]'hi).2 ∧ (A = none → (fs[i]'hi).2.length = 0) ∧ (fs[i]'hi).2.length ≤ c := by
  obtain ⟨⟨xs, hr, hf⟩, _, _⟩ := h
  obtain ⟨x, y, hx, hy, rfl, A, c, rfl, h1, h2, h3, _⟩ := hf.at (List.getElem?_eq_getElem hi)
  obtain ⟨b, off, ha, _, hc⟩ := hr.at hx
  obtain ⟨b', off', ha', _, hc'⟩ := hr.at hy
  rw [ha] at ha'
  cases ha'
  exact ⟨b, off, A, c, ha, hc, hc', h3, h1, h2⟩
set_option maxHeartbeats 3200000 in
theorem same_any (a : Option Addr) (cap : Nat) (fs : List Fr) (a2 : Option Addr) (cap2 : Nat) (gs : List Fr) (w : World) (hf : FramesIn w a cap fs) (hg : FramesIn w a2 cap2 gs) (hl : fs.length ≤ 1000000) :
    Calls Try.prog 17 #[.slice a fs.length cap, .slice a2 gs.length cap2] w fun e w' => e = .returned (.bool (decide (fs = gs))) ∧ Below w.heap.size w w' := by
  by_cases hlen : fs.length = gs.length
  · have ht : ((fs.length : Int) != (gs.length : Int)) = false := by simp [hlen]
    have HL := Lib.hid hlen; clear hlen
    go_enter Try.func17, Try.ntmps17
    go_wp2
    go_loopw [5] (fun i wr => ∃ k : Nat, k ≤ fs.length ∧ i = .int .i64 k ∧ Hid (fs.take k = gs.take k) ∧ Below w.heap.size w wr) (fun i _ => fs.length - (intOf i).toNat)
    case atStart => exact ⟨0, by omega, rfl, by rw [Hid]; simp, Below.refl _ _⟩
    case round =>
      obtain ⟨k, hk, rfl, HT, hbw⟩ := hrel
      by_cases hlt : k < fs.length
      · have hlt2 : k < gs.length := by have := HL.out; omega
        obtain ⟨b, off, A, c, rfl, hc0, hc1, hA, hAn, hAc⟩ := (hf.below hbw).at hlt
        obtain ⟨b2, off2, A2, c2, rfl, hc20, hc21, hA2, hAn2, hAc2⟩ := (hg.below hbw).at hlt2
        have hcv : ∀ m, (convert 22 9 (.slice A (fs[k]'hlt).2.length c)).run Try.prog (wr.drewN m) = .ok (.string (strOf (fs[k]'hlt).2)) (wr.drewN m) := fun m => run_convert_cells c (wr.drewN m) (RowAt.drewN hA m) hAn
        have hcv2 : ∀ m, (convert 22 9 (.slice A2 (gs[k]'hlt2).2.length c2)).run Try.prog (wr.drewN m) = .ok (.string (strOf (gs[k]'hlt2).2)) (wr.drewN m) := fun m => run_convert_cells c2 (wr.drewN m) (RowAt.drewN hA2 m) hAn2
        have h1 : Hid (fs[k]? = some (fs[k]'hlt)) := List.getElem?_eq_getElem hlt
        have h2 : Hid (gs[k]? = some (gs[k]'hlt2)) := List.getElem?_eq_getElem hlt2
        have hk0 : (0 : Int) ≤ (k : Int) := by omega
        have hk1 : (k : Int) < (fs.length : Int) := by omega
        have hk2 : (k : Int) < (gs.length : Int) := by omega
        generalize (fs[k]'hlt) = f at hc0 hc1 hA hAn hAc hcv h1
        generalize (gs[k]'hlt2) = g at hc20 hc21 hA2 hAn2 hAc2 hcv2 h2
        obtain ⟨K, D⟩ := f
        obtain ⟨K2, D2⟩ := g
        clear hA hA2 hAn hAn2 hAc hAc2
        by_cases hK : K = K2
        · have hq : (K != K2) = false := by simp [hK]
          have HK := Lib.hid hK
          clear hK
          have hst := str_test D D2
          by_cases hD : D = D2
          · have hs : (!(strOf D).toList == (strOf D2).toList) = false := by rw [hst]; simp [hD]
            have HD := Lib.hid hD
            clear hD hst hf hg ht
            go_wp2
            go_quiet (fail)
            go_wp2
            go_roundw
            case rel => exact ⟨k + 1, by omega, by go_num, fr_take_succ h1.out (by rw [h2.out, HK.out, HD.out]) HT.out, below_drewN hbw _⟩
            case measure => simp [intOf]; omega
          · have hs : (!(strOf D).toList == (strOf D2).toList) = true := by rw [hst]; simp [hD]
            have HD := Lib.hid hD
            clear hD hst hf hg ht
            go_wp2
            go_quiet (fail)
            go_wp2
            go_ret
            exact ⟨ret_bool (by simp [fr_ne h1.out h2.out (fun e => HD.out (by cases e; rfl))]), below_drewN hbw _⟩
        · have hq : (K != K2) = true := by simpa using hK
          have HK := Lib.hid hK
          clear hK hf hg ht
          go_wp2
          go_quiet (fail)
          go_wp2
          go_ret
          exact ⟨ret_bool (by simp [fr_ne h1.out h2.out (fun e => HK.out (by cases e; rfl))]), below_drewN hbw _⟩
      · have hek : k = fs.length := by omega
        have HE := Lib.hid hek
        clear hek
        go_wp2
        go_ret
        exact ⟨ret_bool (by simp [fr_eq_all HL.out (by have := HT.out; rwa [HE.out] at this)]), hbw⟩
  · have ht : ((fs.length : Int) != (gs.length : Int)) = true := by simp; omega
    have HL := Lib.hid hlen; clear hlen
    go_enter Try.func17, Try.ntmps17
    go_wp2
    go_ret
    exact ⟨ret_bool (by have : ¬ fs = gs := fun e => HL.out (by rw [e]); simp [this]), Below.refl _ _⟩
theorem runs_many : ∀ (k : Nat) (bs : List UInt8), (runs k bs).1.length * 8 ≤ bs.length
  | 0, bs => by simp [runs]
  | k + 1, bs => by
    unfold runs
    split
    · simp
    · split
      · rename_i h
        have hn := getN_pos h
        have := runs_many k (bs.drop (getN bs))
        rw [List.length_drop] at this
        simp only [List.length_cons]
        omega
      · simp
theorem run_many (bs : List UInt8) : (run bs).1.length * 8 ≤ bs.length := runs_many _ _
end Go.Proofs.Ytbonockefjenaaa
