/-
  The contracts of layer 3's functions: the frames that bytes begin with.
-/
import Derived.Test.YtbonockefjenaaaFrameWalksC
namespace Go.Proofs.Ytbonockefjenaaa
open Go.RowKit

set_option linter.unusedVariables false
/-! ### Lists of frames in memory -/
/-- Two cells read as a frame; its body lies in a block of S. -/
def FrameIs (S : Nat → Prop) (w : World) (x y : Value) (f : Fr) : Prop :=
  x = .int .i64 f.1 ∧ ∃ a cap, y = .slice a f.2.length cap ∧ (a = none → f.2.length = 0) ∧ f.2.length ≤ cap ∧ CellsB w a f.2 ∧ (f.2.length ≠ 0 → ∀ b off, a = some ⟨b, off, none⟩ → S b)
/-- A row of cells reads as frames. -/
def FramesAt (S : Nat → Prop) (w : World) : List Value → List Fr → Prop
  | [], [] => True
  | x :: y :: xs, f :: fs => FrameIs S w x y f ∧ FramesAt S w xs fs
  | _, _ => False
theorem CellsB.keepS {S : Nat → Prop} {w w' : World} {a : Option Addr} {bs : List UInt8} (h : CellsB w a bs) (hS : bs.length ≠ 0 → ∀ b off, a = some ⟨b, off, none⟩ → S b) (hs : w.heap.size ≤ w'.heap.size)
    (hk : ∀ b o, b < w.heap.size → S b → w'.cell? ⟨b, o, none⟩ = w.cell? ⟨b, o, none⟩) : CellsB w' a bs := by
  rcases h with h | ⟨b, off, ha, hlt, hc⟩
  · exact .inl h
  · by_cases h0 : bs.length = 0
    · exact .inl (by rw [List.length_eq_zero_iff.1 h0]; rfl)
    · exact .inr ⟨b, off, ha, Nat.lt_of_lt_of_le hlt hs, fun i u hi => by rw [hk b _ hlt (hS h0 b off ha)]; exact hc i u hi⟩
theorem FrameIs.keep {S S' : Nat → Prop} {w w' : World} {x y : Value} {f : Fr} (h : FrameIs S w x y f) (hs : w.heap.size ≤ w'.heap.size)
    (hk : ∀ b o, b < w.heap.size → S b → w'.cell? ⟨b, o, none⟩ = w.cell? ⟨b, o, none⟩) (hS : ∀ b, b < w.heap.size → S b → S' b) : FrameIs S' w' x y f := by
  obtain ⟨h1, a, cap, h2, h3, h4, h5, h6⟩ := h
  refine ⟨h1, a, cap, h2, h3, h4, h5.keepS h6 hs hk, fun h0 b off ha => hS b ?_ (h6 h0 b off ha)⟩
  rcases h5 with h | ⟨b', off', ha', hlt, _⟩
  · exact absurd (by simpa using congrArg List.length h) h0
  · rw [ha] at ha'; cases ha'; exact hlt
theorem FramesAt.keep {S S' : Nat → Prop} {w w' : World} (hs : w.heap.size ≤ w'.heap.size)
    (hk : ∀ b o, b < w.heap.size → S b → w'.cell? ⟨b, o, none⟩ = w.cell? ⟨b, o, none⟩) (hS : ∀ b, b < w.heap.size → S b → S' b) : ∀ {xs : List Value} {fs : List Fr}, FramesAt S w xs fs → FramesAt S' w' xs fs
  | [], [], _ => trivial
  | x :: y :: xs, f :: fs, h => ⟨h.1.keep hs hk hS, FramesAt.keep hs hk hS h.2⟩
  | [], _ :: _, h => h.elim
  | [_], [], h => h.elim
  | [_], _ :: _, h => h.elim
  | _ :: _ :: _, [], h => h.elim
theorem FramesAt.below {S : Nat → Prop} {w w1 : World} {xs : List Value} {fs : List Fr} (h : FramesAt S w xs fs) (hb : Below w.heap.size w w1) : FramesAt S w1 xs fs :=
  h.keep hb.size (fun b o hlt _ => (bcell hb).1 b o hlt) fun _ _ h => h
theorem FramesAt.any {S : Nat → Prop} {w : World} {xs : List Value} {fs : List Fr} (h : FramesAt S w xs fs) : FramesAt (fun _ => True) w xs fs :=
  h.keep (Nat.le_refl _) (fun _ _ _ _ => rfl) fun _ _ _ => trivial
theorem FramesAt.length {S : Nat → Prop} {w : World} : ∀ {xs : List Value} {fs : List Fr}, FramesAt S w xs fs → xs.length = fs.length * 2
  | [], [], _ => rfl
  | x :: y :: xs, f :: fs, h => by have := FramesAt.length h.2; simp only [List.length_cons]; omega
  | [], _ :: _, h => h.elim
  | [_], [], h => h.elim
  | [_], _ :: _, h => h.elim
  | _ :: _ :: _, [], h => h.elim
theorem FramesAt.snoc {S : Nat → Prop} {w : World} : ∀ {xs : List Value} {fs : List Fr} {x y : Value} {f : Fr}, FramesAt S w xs fs → FrameIs S w x y f → FramesAt S w (xs ++ [x, y]) (fs ++ [f])
  | [], [], _, _, _, _, h => ⟨h, trivial⟩
  | x :: y :: xs, f :: fs, _, _, _, hs, h => ⟨hs.1, FramesAt.snoc hs.2 h⟩
  | [], _ :: _, _, _, _, h, _ => h.elim
  | [_], [], _, _, _, h, _ => h.elim
  | [_], _ :: _, _, _, _, h, _ => h.elim
  | _ :: _ :: _, [], _, _, _, h, _ => h.elim
theorem FramesAt.at {S : Nat → Prop} {w : World} : ∀ {xs : List Value} {fs : List Fr} {i : Nat} {f : Fr}, FramesAt S w xs fs → fs[i]? = some f → ∃ x y, xs[i * 2]? = some x ∧ xs[i * 2 + 1]? = some y ∧ FrameIs S w x y f
  | [], [], _, _, _, h => by simp at h
  | x :: y :: xs, f :: fs, 0, g, hs, h => by
    simp at h; subst h; exact ⟨x, y, rfl, rfl, hs.1⟩
  | x :: y :: xs, f :: fs, i + 1, g, hs, h => by
    obtain ⟨x', y', h1, h2, h3⟩ := FramesAt.at (i := i) hs.2 (by simpa using h)
    refine ⟨x', y', ?_, ?_, h3⟩
    · rw [show (i + 1) * 2 = i * 2 + 1 + 1 by omega]; simpa using h1
    · rw [show (i + 1) * 2 + 1 = i * 2 + 1 + 1 + 1 by omega]; simpa using h2
  | [], _ :: _, _, _, h, _ => h.elim
  | [_], [], _, _, h, _ => h.elim
  | [_], _ :: _, _, _, h, _ => h.elim
  | _ :: _ :: _, [], _, _, h, _ => h.elim
theorem FramesAt.drop {S : Nat → Prop} {w : World} : ∀ {xs : List Value} {fs : List Fr} (i : Nat), FramesAt S w xs fs → FramesAt S w (xs.drop (i * 2)) (fs.drop i)
  | xs, fs, 0, h => by simpa using h
  | [], [], i + 1, h => by simpa using h
  | x :: y :: xs, f :: fs, i + 1, h => by
    have := FramesAt.drop i h.2
    rw [show (i + 1) * 2 = i * 2 + 1 + 1 by omega]; simpa using this
  | [], _ :: _, _, h => h.elim
  | [_], [], _, h => h.elim
  | [_], _ :: _, _, h => h.elim
  | _ :: _ :: _, [], _, h => h.elim
theorem FramesAt.take {S : Nat → Prop} {w : World} : ∀ {xs : List Value} {fs : List Fr} (i : Nat), FramesAt S w xs fs → FramesAt S w (xs.take (i * 2)) (fs.take i)
  | xs, fs, 0, h => by simp [FramesAt]
  | [], [], i + 1, h => by simp [FramesAt]
  | x :: y :: xs, f :: fs, i + 1, h => by
    have := FramesAt.take i h.2
    rw [show (i + 1) * 2 = i * 2 + 1 + 1 by omega]
    simp only [List.take_succ_cons]
    exact ⟨h.1, this⟩
  | [], _ :: _, _, h => h.elim
  | [_], [], _, h => h.elim
  | [_], _ :: _, _, h => h.elim
  | _ :: _ :: _, [], _, h => h.elim
/-- A slice of frames that is read. -/
structure FramesIn (w : World) (a : Option Addr) (cap : Nat) (fs : List Fr) : Prop where
  cells : ∃ xs, RowAt w a xs ∧ FramesAt (fun _ => True) w xs fs
  cap : fs.length ≤ cap
  none_ : a = none → fs.length = 0
theorem FramesIn.below {w w1 : World} {a : Option Addr} {cap : Nat} {fs : List Fr} (h : FramesIn w a cap fs) (hb : Below w.heap.size w w1) : FramesIn w1 a cap fs := by
  obtain ⟨⟨xs, h1, h2⟩, h3, h4⟩ := h
  exact ⟨⟨xs, h1.below hb, h2.below hb⟩, h3, h4⟩
theorem frame_one (x y : Value) (hx : x.oneCell' = true) (hy : y.oneCell' = true) : ∀ u ∈ [x, y], u.oneCell' = true := by
  intro u hu
  simp at hu
  rcases hu with rfl | rfl
  · exact hx
  · exact hy
theorem elemF : Elem Try.prog 36 24 (.agg #[.int .i64 0, .slice none 0 0]) 2 32 := ⟨Try.underlying36, by kernel_rfl, rfl, by omega⟩
/-- One frame more behind those that were run. -/
theorem frames_step {wr w4 w6 : World} {f0 : Nat} {K : Int} {D : List UInt8} {a4 : Option Addr} {c4 : Nat} {v v' : Value} {xs : List Value} {fs : List Fr} (o : Obj)
    (hfs : FramesAt (fun b => b ≠ f0 ∧ some b ≠ v.ownBlock) wr xs fs) (hd4 : Below wr.heap.size wr w4) (hlt : f0 < wr.heap.size) (hv : ∀ g, v.ownBlock = some g → g < wr.heap.size)
    (hcells : CellsB w4 a4 D) (hnone : a4 = none → D.length = 0) (hle : D.length ≤ c4) (hfar : D.length ≠ 0 → ∀ b off, a4 = some ⟨b, off, none⟩ → wr.heap.size ≤ b)
    (hg : (((w4.setCell ⟨f0, 0, none⟩ (.int .i64 K)).setCell ⟨f0, 1, none⟩ (.slice a4 D.length c4)).alloc o).grownBy w6 v.ownBlock)
    (hat : v'.ownBlock = v.ownBlock ∨ v'.ownBlock = some (((w4.setCell ⟨f0, 0, none⟩ (.int .i64 K)).setCell ⟨f0, 1, none⟩ (.slice a4 D.length c4)).alloc o).heap.size) :
    FramesAt (fun b => b ≠ f0 ∧ some b ≠ v'.ownBlock) w6 (xs ++ [.int .i64 K, .slice a4 D.length c4]) (fs ++ [(K, D)]) := by
  have hz : (((w4.setCell ⟨f0, 0, none⟩ (.int .i64 K)).setCell ⟨f0, 1, none⟩ (.slice a4 D.length c4)).alloc o).heap.size = w4.heap.size + 1 := by simp
  have h4 : FramesAt (fun b => b ≠ f0 ∧ some b ≠ v.ownBlock) w4 (xs ++ [.int .i64 K, .slice a4 D.length c4]) (fs ++ [(K, D)]) :=
    (hfs.below hd4).snoc ⟨rfl, a4, c4, rfl, hnone, hle, hcells, fun h0 b off ha => by
      have hb := hfar h0 b off ha
      refine ⟨by omega, fun e => ?_⟩
      have := hv b e.symm
      omega⟩
  have hs := hg.size
  refine h4.keep (by omega) (fun b o' hb hS => ?_) fun b hb hS => ⟨hS.1, fun e => ?_⟩
  · refine (World.cell?_of_block (hg.block b (by omega) hS.2)).trans ?_
    refine (World.cell?_of_block (Below.heap_alloc _ _ b (by simpa using hb))).trans ?_
    exact World.cell?_of_block ((Below.heap_setCell _ ⟨f0, 1, none⟩ _ b hS.1).trans (Below.heap_setCell _ ⟨f0, 0, none⟩ _ b hS.1))
  · rcases hat with h | h
    · exact hS.2 (e.trans h)
    · rw [h, hz] at e
      injection e with e
      omega
theorem own_lt {w : World} {base : Nat} {e : TypeId} {size : Nat} {v : Value} {n : Nat} {xs : List Value} (h : w.ownsRow base e size v n xs) : ∀ g, v.ownBlock = some g → g < w.heap.size := fun g hg => (h.lt g hg).2
theorem own_var {wr w4 : World} {f0 : Nat} {e : TypeId} {size n : Nat} {v : Value} {xs : List Value} (h : wr.ownsRow (f0 + 1) e size v n xs) (hd : Below wr.heap.size wr w4) (u u' : Value) (o : Obj) :
    (((w4.setCell ⟨f0, 0, none⟩ u).setCell ⟨f0, 1, none⟩ u').alloc o).ownsRow (f0 + 1) e size v n xs :=
  (ownsRow_setCell_below (ownsRow_setCell_below (own_below h hd) (a := ⟨f0, 0, none⟩) (by show f0 < f0 + 1; omega) _) (a := ⟨f0, 1, none⟩) (by show f0 < f0 + 1; omega) _).alloc o
theorem row_var (w4 : World) (f0 : Nat) (u u' : Value) (x y : Value) (t : TypeId) :
    RowAt (((w4.setCell ⟨f0, 0, none⟩ u).setCell ⟨f0, 1, none⟩ u').alloc (.cells #[x, y] t)) (some ⟨w4.heap.size, 0, none⟩) [x, y] := by
  have h := RowAt.new ((w4.setCell ⟨f0, 0, none⟩ u).setCell ⟨f0, 1, none⟩ u') #[x, y] t
  have e : ((w4.setCell ⟨f0, 0, none⟩ u).setCell ⟨f0, 1, none⟩ u').heap.size = w4.heap.size := by simp
  rwa [e] at h
/-- The variable's two cells behind the append. -/
theorem var_kept {w4 w6 : World} {f0 : Nat} {u u' : Value} {o : Obj} {row : Option Nat} (hlt : f0 < w4.heap.size) (hg : (((w4.setCell ⟨f0, 0, none⟩ u).setCell ⟨f0, 1, none⟩ u').alloc o).grownBy w6 row) (hrow : row ≠ some f0)
    (h0 : ∃ x, w4.cell? ⟨f0, 0, none⟩ = some x) (h1 : ∃ x, w4.cell? ⟨f0, 1, none⟩ = some x) (f0' : w4.frozen? ⟨f0, 0, none⟩ = false) (f1' : w4.frozen? ⟨f0, 1, none⟩ = false) :
    ∃ x y, w6.cell? ⟨f0, 0, none⟩ = some x ∧ w6.cell? ⟨f0, 1, none⟩ = some y ∧ w6.frozen? ⟨f0, 0, none⟩ = false ∧ w6.frozen? ⟨f0, 1, none⟩ = false ∧ f0 < w6.heap.size := by
  have hz : (((w4.setCell ⟨f0, 0, none⟩ u).setCell ⟨f0, 1, none⟩ u').alloc o).heap.size = w4.heap.size + 1 := by simp
  have hs := hg.size
  have hb : w6.heap[f0]? = ((w4.setCell ⟨f0, 0, none⟩ u).setCell ⟨f0, 1, none⟩ u').heap[f0]? :=
    (hg.block f0 (by omega) (fun e => hrow e.symm)).trans (Below.heap_alloc _ _ f0 (by simpa using hlt))
  have e0 : ∀ i, w6.cell? ⟨f0, i, none⟩ = ((w4.setCell ⟨f0, 0, none⟩ u).setCell ⟨f0, 1, none⟩ u').cell? ⟨f0, i, none⟩ := fun i => World.cell?_of_block hb
  have e1 : ∀ i, w6.frozen? ⟨f0, i, none⟩ = ((w4.setCell ⟨f0, 0, none⟩ u).setCell ⟨f0, 1, none⟩ u').frozen? ⟨f0, i, none⟩ := fun i => World.frozen?_of_block hb
  obtain ⟨x, hx⟩ := h0
  obtain ⟨y, hy⟩ := h1
  refine ⟨u, u', ?_, ?_, ?_, ?_, by omega⟩
  · rw [e0]; simp [go_sem, hx]
  · rw [e0]; simp [go_sem, hy]
  · rw [e1]; simpa [go_sem] using f0'
  · rw [e1]; simpa [go_sem] using f1'
/-- What holds each time that the text comes to its label. -/
def RunInv (a : Option Addr) (cap : Nat) (bs : List UInt8) (w : World) (a' : Act) (w' : World) : Prop :=
   ∃ (k : Nat) (fs : List Fr) (xs : List Value) (aL : Option Addr) (cL : Nat) (u1 u8 u9 u10 u11 u12 u13 u14 u15 u16 u17 u18 u19 u20 u21 u22 u23 u24 u25 u26 u27 u28 u29 u30 u31 u32 u33 u34 u35 : Value), k ≤ bs.length ∧ fs.length * 8 ≤ k ∧ run bs = (fs ++ (run (bs.drop k)).1, k + (run (bs.drop k)).2.1, (run (bs.drop k)).2.2) ∧ w'.ownsRow (w.heap.size + 1) 24 2 (.slice aL fs.length cL) fs.length xs ∧ FramesAt (fun b => b ≠ w.heap.size ∧ some b ≠ (Value.slice aL fs.length cL).ownBlock) w' xs fs ∧ Below w.heap.size w w' ∧ (∃ x y, w'.cell? ⟨w.heap.size, 0, none⟩ = some x ∧ w'.cell? ⟨w.heap.size, 1, none⟩ = some y ∧ w'.frozen? ⟨w.heap.size, 0, none⟩ = false ∧ w'.frozen? ⟨w.heap.size, 1, none⟩ = false ∧ w.heap.size < w'.heap.size) ∧ a' = { tmps := #[.slice a bs.length cap, u1, .slice none 0 0, .int .i64 0, .int .i64 0, .slice aL fs.length cL, .pointer (some ⟨w.heap.size, 0, none⟩), .int .i64 k, u8, u9, u10, u11, u12, u13, u14, u15, u16, u17, u18, u19, u20, u21, u22, u23, u24, u25, u26, u27, u28, u29, u30, u31, u32, u33, u34, u35], defers := [] }
/-- Frames, how many bytes they have, and an error. -/
def RetRun (r : List Fr × Nat × Int) (w : World) (en : Ending) (w' : World) : Prop :=
  ∃ a cap, en = .returned (.tuple #[.slice a r.1.length cap, .int .i64 r.2.1, .int .i64 r.2.2]) ∧ FramesIn w' a cap r.1 ∧ Below w.heap.size w w'
theorem run_at_end {bs : List UInt8} {k : Nat} {fs : List Fr} (hk : k = bs.length) (h : run bs = (fs ++ (run (bs.drop k)).1, k + (run (bs.drop k)).2.1, (run (bs.drop k)).2.2)) : run bs = (fs, k, 0) := by
  rw [h, run_nil (bs := bs.drop k) (by rw [List.length_drop]; omega)]; simp
theorem run_at_err {bs : List UInt8} {k : Nat} {fs : List Fr} (hk : k < bs.length) (he : getE (bs.drop k) ≠ 0) (h : run bs = (fs ++ (run (bs.drop k)).1, k + (run (bs.drop k)).2.1, (run (bs.drop k)).2.2)) : run bs = (fs, k, getE (bs.drop k)) := by
  rw [h, run_err (bs := bs.drop k) (by rw [List.length_drop]; omega) he]; simp
theorem run_at_ok {bs : List UInt8} {k : Nat} {fs : List Fr} (he : getE (bs.drop k) = 0) (h : run bs = (fs ++ (run (bs.drop k)).1, k + (run (bs.drop k)).2.1, (run (bs.drop k)).2.2)) :
    run bs = ((fs ++ [getF (bs.drop k)]) ++ (run (bs.drop (k + getN (bs.drop k)))).1, (k + getN (bs.drop k)) + (run (bs.drop (k + getN (bs.drop k)))).2.1, (run (bs.drop (k + getN (bs.drop k)))).2.2) := by
  rw [h, run_ok (bs := bs.drop k) he, List.drop_drop]
  simp [Nat.add_assoc]
set_option maxHeartbeats 3200000 in
theorem run_any (a : Option Addr) (cap : Nat) (bs : List UInt8) (w : World) (hb : CellsB w a bs) (hcap : bs.length ≤ cap) (hl : bs.length ≤ 900000) :
    Calls Try.prog 15 #[.slice a bs.length cap] w (RetRun (run bs) w) := by
  go_enter Try.func15, Try.ntmps15
  go_wp2
  refine scope_loop 0 (RunInv a cap bs w) (fun a' _ => bs.length - (intOf (a'.tmps.getD 7 undef)).toNat) rfl ?_ ?_
  · rintro a' wr ⟨k, fs, xs, aL, cL, u1, u8, u9, u10, u11, u12, u13, u14, u15, u16, u17, u18, u19, u20, u21, u22, u23, u24, u25, u26, u27, u28, u29, u30, u31, u32, u33, u34, u35, hk, hfk, hrun, hown, hfs, hbw, ⟨x, y, hc0, hc1, hf0, hf1, hlt⟩, rfl⟩
    have HRUN := Lib.hid hrun
    clear hrun
    by_cases hend : k = bs.length
    · have ht : ((k : Int) == (bs.length : Int)) = true := by rw [hend]; simp
      have HE := Lib.hid hend
      clear hend
      go_wp2
      simp only [Exit.jump]
      refine bodyPost_ret (v := .tuple #[.slice aL fs.length cL, .int .i64 k, .int .i64 0]) (by simp [results, Try.results15]) rfl ?_
      rw [run_at_end HE.out HRUN.out]
      exact ⟨aL, cL, rfl, ⟨⟨xs, RowAt.of_own hown, hfs.any⟩, own_le hown, own_none hown⟩, hbw⟩
    · have ht : ((k : Int) == (bs.length : Int)) = false := beq_eq_false_iff_ne.2 (by omega)
      have hklt : k < bs.length := by omega
      have hs2 := fun W => slice_from a bs.length cap k hk W
      have hk0 : (0 : Int) ≤ (k : Int) := by omega
      have hk1 : (k : Int) ≤ (bs.length : Int) := by omega
      have HG : Hid (∀ W, CellsB W a bs → Calls Try.prog 13 #[.slice (cutA a cap k) (bs.length - k) (cap - k)] W (RetGet (getF (bs.drop k)) (getN (bs.drop k)) (getE (bs.drop k)) W)) := fun W h => by
        have hl2 : (bs.drop k).length = bs.length - k := List.length_drop
        have := get_any (cutA a cap k) (cap - k) (bs.drop k) W (h.cut cap k hcap) (by rw [hl2]; omega) (by rw [hl2]; omega)
        rwa [hl2] at this
      by_cases he : getE (bs.drop k) = 0
      · have hn := getN_pos he
        have hnl : k + getN (bs.drop k) ≤ bs.length := by have h2 : (bs.drop k).length = bs.length - k := List.length_drop; omega
        have hn8 : 8 ≤ getN (bs.drop k) := hn.1
        have HR2 := Lib.hid (run_at_ok he HRUN.out)
        rw [he] at HG
        clear he hn
        generalize getN (bs.drop k) = n at HG HR2 hnl hn8
        generalize getF (bs.drop k) = f at HG HR2
        obtain ⟨K, D⟩ := f
        go_wp2_with (first
          | (go_at_call 13; refine (HG.out _ (hb.below hbw)).mono ?_; rintro e w4 ⟨a4, c4, rfl, hcells, hnone, ⟨hle, hfar⟩, hd4⟩; obtain ⟨hcc, hff⟩ := bcell hd4; have hlt4 := Nat.lt_of_lt_of_le hlt hd4.size)
          | (at_builtin; refine wpList_append_row rfl (.tmp 26) (.tmp 28) rfl elemF (w.heap.size + 1) (.slice aL fs.length cL) fs.length xs (by rfl) (own_var hown hd4 _ _ _) (some ⟨w4.heap.size, 0, none⟩) 1 1 [.int .i64 K, .slice a4 D.length c4] (by rfl) (by rfl) (row_var _ _ _ _ _ _ _) (frame_one _ _ rfl rfl) (by unfold maxLen; omega) (by omega) (by simp; omega) (by simp) ?_; intro a6 c6 w6 hown6 hg6 hat6))
        have hfs6 := frames_step _ hfs hd4 hlt (own_lt hown) hcells hnone hle hfar hg6 hat6
        have hrow : (Value.slice aL fs.length cL).ownBlock ≠ some w.heap.size := fun e => by have := (hown.lt _ e).1; omega
        have hvar := var_kept hlt4 hg6 hrow ⟨_, (hcc _ _ hlt).trans hc0⟩ ⟨_, (hcc _ _ hlt).trans hc1⟩ ((hff _ _ hlt).trans hf0) ((hff _ _ hlt).trans hf1)
        have hb6 : Below w.heap.size w w6 := Below.appended ((((bt hbw hd4).setCell (p := ⟨w.heap.size, 0, none⟩) (Nat.le_refl _) _).setCell (p := ⟨w.heap.size, 1, none⟩) (Nat.le_refl _) _).alloc (by simp; omega) _) (own_var hown hd4 _ _ _) hg6 (by simp; omega) (by omega)
        obtain ⟨f6, hf6⟩ : ∃ f6, f6 = fs ++ [(K, D)] := ⟨_, rfl⟩
        have hl6 : fs.length + 1 = f6.length := by rw [hf6]; simp
        rw [← hf6] at hfs6 HR2
        rw [hl6] at hown6 hfs6
        have HF6 := Lib.hid hf6
        have HL6 := Lib.hid hl6
        clear hf6 hl6 hfs hown hg6 hat6 hcells hcc hff hc0 hc1 hf0 hf1
        go_wp2
        go_step3
        rw [HL6.out]
        refine ⟨rfl, ?_, by simp [intOf]; omega⟩
        unfold RunInv
        refine ⟨k + n, f6, xs ++ [.int .i64 K, .slice a4 D.length c4], a6, c6, ?_⟩
        repeat apply Exists.intro
        exact ⟨hnl, by have := HL6.out; omega, HR2.out, hown6, hfs6, hb6, hvar, rfl⟩
      · have hne : (getE (bs.drop k) == 0) = false := by simpa using he
        have HR2 := Lib.hid (run_at_err hklt he HRUN.out)
        clear he
        generalize getE (bs.drop k) = E at HG HR2 hne
        generalize getF (bs.drop k) = f at HG
        obtain ⟨K, D⟩ := f
        go_wp2_with (go_at_call 13; refine (HG.out _ (hb.below hbw)).mono ?_; rintro e w4 ⟨a4, c4, rfl, hcells, hnone, _, hd4⟩; obtain ⟨hcc, hff⟩ := bcell hd4; have hlt4 := Nat.lt_of_lt_of_le hlt hd4.size)
        simp only [Exit.jump]
        refine bodyPost_ret (v := .tuple #[.slice aL fs.length cL, .int .i64 k, .int .i64 E]) (by simp [results, Try.results15]) rfl ?_
        rw [HR2.out]
        have hown5 := ownsRow_setCell_below (ownsRow_setCell_below (own_below hown hd4) (a := ⟨w.heap.size, 0, none⟩) (by show w.heap.size < w.heap.size + 1; omega) (.int .i64 K)) (a := ⟨w.heap.size, 1, none⟩) (by show w.heap.size < w.heap.size + 1; omega) (.slice a4 D.length c4)
        exact ⟨aL, cL, rfl, ⟨⟨xs, RowAt.of_own hown5, (hfs.below hd4).keep (by simp) (fun b o _ hS => World.cell?_of_block ((Below.heap_setCell _ ⟨w.heap.size, 1, none⟩ _ b hS.1).trans (Below.heap_setCell _ ⟨w.heap.size, 0, none⟩ _ b hS.1))) (fun _ _ _ => trivial)⟩, own_le hown, own_none hown⟩, ((bt hbw hd4).setCell (p := ⟨w.heap.size, 0, none⟩) (Nat.le_refl _) _).setCell (p := ⟨w.heap.size, 1, none⟩) (Nat.le_refl _) _⟩
  · intro hp
    go_wp2
    go_step3
    refine (by assumption : ∀ (a : Act) (w : World), _ → _) _ _ (hp _ _ ?_)
    unfold RunInv
    refine ⟨0, [], [], none, 0, ?_⟩
    repeat apply Exists.intro
    exact ⟨by omega, by simp, by simp, World.ownsRow_nil _ _ _ _, trivial, (Below.refl _ _).alloc (Nat.le_refl _) _, ⟨_, _, cell_of_row _ _ _ _ _ (0, 0) (heap_alloc_new w _), cell_of_row _ _ _ _ _ (0, 0) (heap_alloc_new w _), frozen_of_row _ _ _ _ _ (heap_alloc_new w _), frozen_of_row _ _ _ _ _ (heap_alloc_new w _), by simp⟩, rfl⟩
end Go.Proofs.Ytbonockefjenaaa
