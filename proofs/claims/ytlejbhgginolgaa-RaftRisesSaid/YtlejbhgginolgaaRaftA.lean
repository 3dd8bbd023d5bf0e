/-
  How one of a group lies in memory; its votes; what it says.
-/
import Derived.Test.YtlejbhgginolgaaRaftMath
import Derived.Test.YtlejbhgginolgaaChg
import Derived.Maps.OwnSet
import Derived.StillTailTactics
import Derived.Deep.RegionLaw
namespace Go.Proofs.Ytlejbhgginolgaa
open Go.RowKit
open Go.Maps (Keyed)
set_option linter.unusedVariables false
/-! ### The votes: a map from numbers to true -/
theorem voteK : Keyed Try.prog 3 := Maps.int_keyed Try.underlying3
/-- Block b is a map whose keys are these. -/
def VotesAt (w : World) (b : Nat) (vs : List Int) : Prop := ∃ D : DataW Unit, w.ownsMap Try.prog 3 (plainElem Try.prog 4) b 16 D ∧ (∀ k : Int, 1 ≤ k → k ≤ 16 → Maps.has D (.int .i64 k) = decide (k ∈ vs)) ∧ Maps.size D = vs.length
theorem VotesAt.lt {w : World} {b : Nat} {vs : List Int} (h : VotesAt w b vs) : b < w.heap.size := by obtain ⟨D, h, _⟩ := h; exact h.lt
theorem VotesAt.keep {w w' : World} {b : Nat} {vs : List Int} (h : VotesAt w b vs) (hb : w'.heap[b]? = w.heap[b]?) : VotesAt w' b vs := by
  obtain ⟨D, ⟨es, clock, h1, h2⟩, h3⟩ := h
  exact ⟨D, ⟨es, clock, by rw [hb]; exact h1, h2⟩, h3⟩
theorem VotesAt.chg {S : List Nat} {w w' : World} {b : Nat} {vs : List Int} (h : VotesAt w b vs) (hc : Chg S w w') (hb : b ∉ S) : VotesAt w' b vs := h.keep (hc.block b h.lt hb)
theorem VotesAt.below {w w' : World} {b : Nat} {vs : List Int} (h : VotesAt w b vs) (hc : Below w.heap.size w w') : VotesAt w' b vs := h.keep (hc.block b h.lt)
theorem VotesAt.setCell {w : World} {b : Nat} {vs : List Int} (h : VotesAt w b vs) {c : Nat} (hne : b ≠ c) (i : Nat) (v : Value) : VotesAt (w.setCell ⟨c, i, none⟩ v) b vs := h.keep (Below.heap_setCell _ _ _ _ hne)
theorem VotesAt.made (w : World) : VotesAt (w.alloc (.map #[] 0)) w.heap.size [] :=
  ⟨.map [], (World.ownsMap_made w Try.prog 3 (plainElem Try.prog 4)).mono (by omega), fun k _ _ => by simp [Maps.has], rfl⟩
theorem ownsMap_tight {P : Program} {k : TypeId} {R : Value → Option (DataW Unit × List MemPlace)} {w : World} {b n m : Nat} {D : DataW Unit} (h : w.ownsMap P k R b n D) (hs : Maps.size D ≤ m) : w.ownsMap P k R b m D := by
  obtain ⟨es, clock, hb, F, _, rfl⟩ := h
  refine ⟨es, clock, hb, F, ?_, rfl⟩
  have e : Maps.size (DataW.map ((es.toList.map (WideElems.rg P k R)).foldr DataW.insert [])) = es.size := by simp [Maps.size, length_sorted]
  omega
theorem VotesAt.turned {w w' : World} {b : Nat} (h : w.mapTurned w' b) : Chg [b] w w' := by
  have := h.grown
  exact (Chg.refl [b] w).grown this fun x hx => by cases hx; exact .inl (by simp)
theorem voteKey {k : Int} (h1 : 1 ≤ k) (h2 : k ≤ 16) : keyOf Try.prog 3 (.int .i64 k) = some (.int .i64 k) := Maps.keyOf_int_mk Try.underlying3 (by simp [Lit.wf, IntKind.min, IntKind.max, IntKind.bits, IntKind.signed]; omega)
theorem VotesAt.putD {w w' : World} {b : Nat} {vs : List Int} {D : DataW Unit} (ho : w.ownsMap Try.prog 3 (plainElem Try.prog 4) b 16 D) (hh : ∀ k : Int, 1 ≤ k → k ≤ 16 → Maps.has D (.int .i64 k) = decide (k ∈ vs)) (hs : Maps.size D = vs.length) (k : Int) (h1 : 1 ≤ k) (h2 : k ≤ 16) (hn : (if k ∈ vs then vs else vs ++ [k]).length ≤ 16)
    (ho' : w'.ownsMap Try.prog 3 (plainElem Try.prog 4) b (16 + 1) (D.put (.int .i64 k) (.lit (.bool true)))) : VotesAt w' b (if k ∈ vs then vs else vs ++ [k]) := by
  have hkey := voteKey h1 h2
  have hsz : Maps.size (D.put (.int .i64 k) (.lit (.bool true))) = (if k ∈ vs then vs else vs ++ [k]).length := by
    rw [Maps.size_put (ho.tidy voteK), hh k h1 h2]
    by_cases hk : k ∈ vs
    · simp [hk, hs]
    · simp [hk, hs]
  refine ⟨_, ownsMap_tight ho' (by rw [hsz]; exact hn), fun j j1 j2 => ?_, hsz⟩
  by_cases hj : j = k
  · subst hj
    rw [Maps.has_put_same ho.isMap (voteK.key hkey)]
    by_cases hk : j ∈ vs <;> simp [hk]
  · rw [Maps.has_put_other (by intro e; injection e with _ e; exact hj e), hh j j1 j2]
    by_cases hk : k ∈ vs <;> simp [hk, hj]
theorem VotesAt.clear {w : World} {b : Nat} {vs : List Int} (h : VotesAt w b vs) (ty : TypeId) :
    ∃ w', (Builtin.clear_ #[63] ty #[.map (some b)]).run Try.prog w = .ok (.tuple #[]) w' ∧ VotesAt w' b [] ∧ Chg [b] w w' := by
  obtain ⟨D, ⟨es, clock, hb, F, hs⟩, _⟩ := h
  refine ⟨ChangeMaps.setBlock w b (.map #[] clock), ?_, ⟨.map [], ⟨#[], clock, ChangeMaps.heap_setBlock_same hb _, ⟨by simp, MapKept.stamped_empty clock, by simp⟩, by simp, rfl⟩, fun k _ _ => by simp [Maps.has], rfl⟩, VotesAt.turned ⟨es, clock, #[], clock, hb, rfl⟩⟩
  simp [Builtin.clear_, run_underlying Try.underlying63, MapKept.run_getObj_map hb, MapKept.run_setObj_map _ hb, ChangeMaps.setBlock, Result.andThen]
theorem VotesAt.len {w : World} {b : Nat} {vs : List Int} (h : VotesAt w b vs) (ty : TypeId) : (Builtin.len_ #[63] ty #[.map (some b)]).run Try.prog w = .ok (.int .i64 (vs.length : Nat)) w := by
  obtain ⟨D, ho, _, hs⟩ := h
  rw [← hs]
  exact ho.len Try.underlying63 ty
/-! ### A member's block, its log, its votes, and what it knows of each -/
def prV (l : List (Int × Int)) : List Value := l.flatMap fun p => [.int .i64 p.1, .int .i64 p.2]
theorem prV_length (l : List (Int × Int)) : (prV l).length = l.length * 2 := by
  induction l with
  | nil => rfl
  | cons p l ih => rw [prV, List.flatMap_cons, List.length_append]; have : (l.flatMap fun p => [Value.int .i64 p.1, .int .i64 p.2]).length = l.length * 2 := ih; simp only [this, List.length_cons, List.length_nil]; omega
theorem prV_cons (p : Int × Int) (l : List (Int × Int)) : prV (p :: l) = .int .i64 p.1 :: .int .i64 p.2 :: prV l := rfl
theorem prV_at {l : List (Int × Int)} {k : Nat} (hk : k < l.length) : (prV l)[k * 2]? = some (.int .i64 (l[k]).1) ∧ (prV l)[k * 2 + 1]? = some (.int .i64 (l[k]).2) := by
  induction l generalizing k with
  | nil => simp at hk
  | cons p l ih =>
    rw [prV_cons]
    cases k with
    | zero => exact ⟨rfl, rfl⟩
    | succ k =>
      have := ih (k := k) (by simpa using hk)
      rw [show (k + 1) * 2 = k * 2 + 1 + 1 by omega]
      simpa using this
theorem prV_set {l : List (Int × Int)} {k : Nat} (hk : k < l.length) (p : Int × Int) : prV (l.set k p) = ((prV l).set (k * 2) (.int .i64 p.1)).set (k * 2 + 1) (.int .i64 p.2) := by
  induction l generalizing k with
  | nil => simp at hk
  | cons q l ih =>
    cases k with
    | zero => rfl
    | succ k =>
      rw [List.set_cons_succ, prV_cons, prV_cons, ih (by simpa using hk), show (k + 1) * 2 = k * 2 + 1 + 1 by omega]
      rfl
theorem elemP : Elem Try.prog 64 72 (.agg #[.int .i64 0, .int .i64 0]) 2 16 := ⟨Try.underlying64, by kernel_rfl, rfl, by omega⟩
/-- Where a member's parts lie: its log, its votes, what it knows of each. -/
structure MA where
  la : Option Addr
  lc : Nat
  vb : Nat
  oa : Nat
  oc : Nat
abbrev mbC (m : Mb) (a : MA) : Array Value := #[.int .i64 m.id, .int .i64 m.term, .int .i64 m.vote, .int .i64 0, .int .i64 0, .slice a.la m.log.length a.lc, .int .i64 m.role, .int .i64 m.settled, .map (some a.vb), .slice (some ⟨a.oa, 0, none⟩) m.prog.length a.oc]
/-- A member in block b. -/
structure MAt (w : World) (b : Nat) (a : MA) (m : Mb) : Prop where
  blk : w.heap[b]? = some (.cells (mbC m a) 66)
  log : w.ownsRow 0 47 7 (.slice a.la m.log.length a.lc) m.log.length (ensV m.log)
  votes : VotesAt w a.vb m.votes
  prog : w.ownsRow 0 72 2 (.slice (some ⟨a.oa, 0, none⟩) m.prog.length a.oc) m.prog.length (prV m.prog)
/-- The blocks of a member. -/
def foot (b : Nat) (a : MA) : List Nat := [b, a.vb, a.oa] ++ blkOf a.la
theorem foot_b (b : Nat) (a : MA) : b ∈ foot b a := by simp [foot]
theorem foot_v (b : Nat) (a : MA) : a.vb ∈ foot b a := by simp [foot]
theorem foot_o (b : Nat) (a : MA) : a.oa ∈ foot b a := by simp [foot]
theorem foot_l {b : Nat} {a : MA} {x : Nat} (h : x ∈ blkOf a.la) : x ∈ foot b a := by simp [foot, h]
theorem MAt.lt {w : World} {b : Nat} {a : MA} {m : Mb} (h : MAt w b a m) : ∀ x ∈ foot b a, x < w.heap.size := by
  intro x hx
  simp only [foot, List.cons_append, List.nil_append, List.mem_cons] at hx
  rcases hx with rfl | rfl | rfl | hx
  · exact blk_lt h.blk
  · exact h.votes.lt
  · exact (own_blk h.prog _ (by simp [blkOf])).2
  · exact (own_blk h.log _ hx).2
theorem MAt.chg {S : List Nat} {w w' : World} {b : Nat} {a : MA} {m : Mb} (h : MAt w b a m) (hc : Chg S w w') (hne : ∀ x ∈ foot b a, x ∉ S) : MAt w' b a m :=
  ⟨hc.keep h.blk (hne b (foot_b b a)), own_chg h.log hc fun x hx => hne x (foot_l hx), h.votes.chg hc (hne _ (foot_v b a)), own_chg h.prog hc fun x hx => by
    simp only [blkOf, List.mem_singleton] at hx
    subst hx
    exact hne _ (foot_o b a)⟩
theorem MAt.below {w w' : World} {b : Nat} {a : MA} {m : Mb} (h : MAt w b a m) (hc : Below w.heap.size w w') : MAt w' b a m := h.chg (S := []) (Chg.of_below hc) (fun x _ hx => by cases hx)
theorem box10 {w : World} {F : Nat} {c0 c1 c2 c3 c4 c5 c6 c7 c8 c9 : Value} {t : TypeId} (h : w.heap[F]? = some (.cells #[c0, c1, c2, c3, c4, c5, c6, c7, c8, c9] t)) :
    w.cell? ⟨F, 0, none⟩ = some c0 ∧ w.cell? ⟨F, 1, none⟩ = some c1 ∧ w.cell? ⟨F, 2, none⟩ = some c2 ∧ w.cell? ⟨F, 3, none⟩ = some c3 ∧ w.cell? ⟨F, 4, none⟩ = some c4 ∧ w.cell? ⟨F, 5, none⟩ = some c5 ∧ w.cell? ⟨F, 6, none⟩ = some c6 ∧ w.cell? ⟨F, 7, none⟩ = some c7 ∧ w.cell? ⟨F, 8, none⟩ = some c8 ∧ w.cell? ⟨F, 9, none⟩ = some c9 ∧ F < w.heap.size :=
  ⟨blk_cell h 0, blk_cell h 1, blk_cell h 2, blk_cell h 3, blk_cell h 4, blk_cell h 5, blk_cell h 6, blk_cell h 7, blk_cell h 8, blk_cell h 9, blk_lt h⟩
/-- A member's blocks are not one another. -/
theorem MAt.apart {w : World} {b : Nat} {a : MA} {m : Mb} (h : MAt w b a m) : a.vb ≠ b ∧ a.oa ≠ b ∧ (∀ x ∈ blkOf a.la, x ≠ b) ∧ a.vb ≠ a.oa ∧ (∀ x ∈ blkOf a.la, x ≠ a.vb) ∧ ∀ x ∈ blkOf a.la, x ≠ a.oa := by
  obtain ⟨hb, hl, ⟨D, ⟨es, clock, hv, _⟩, _⟩, hp⟩ := h
  have ho : ∃ cur, w.heap[a.oa]? = some (.cells cur 72) := by
    rcases hp.2 with ⟨h2, _⟩ | ⟨g, cap, cur, hv, hg, hh, r⟩
    · cases h2
    · injection hv with h1; injection h1 with h1; injection h1 with h1; subst h1; exact ⟨cur, hh⟩
  have hla : ∀ x ∈ blkOf a.la, ∃ cur, w.heap[x]? = some (.cells cur 47) := fun x hx => by
    rcases hl.2 with ⟨h2, _⟩ | ⟨g, cap, cur, hv, hg, hh, r⟩
    · injection h2 with h1; rw [h1] at hx; cases hx
    · injection hv with h1; rw [h1] at hx; simp only [blkOf, List.mem_singleton] at hx; subst hx; exact ⟨cur, hh⟩
  obtain ⟨oc, ho⟩ := ho
  refine ⟨fun e => ?_, fun e => ?_, fun x hx e => ?_, fun e => ?_, fun x hx e => ?_, fun x hx e => ?_⟩
  · rw [e, hb] at hv; cases hv
  · rw [e, hb] at ho; injection ho with ho; injection ho with _ ho; exact absurd ho (by decide)
  · obtain ⟨c, hc⟩ := hla x hx; rw [e, hb] at hc; injection hc with hc; injection hc with _ hc; exact absurd hc (by decide)
  · rw [e, ho] at hv; cases hv
  · obtain ⟨c, hc⟩ := hla x hx; rw [e, hv] at hc; cases hc
  · obtain ⟨c, hc⟩ := hla x hx; rw [e, ho] at hc; injection hc with hc; injection hc with _ hc; exact absurd hc (by decide)
theorem own_setFar {w : World} {base : Nat} {e : TypeId} {size : Nat} {A : Option Addr} {m cap : Nat} {n : Nat} {xs : List Value} (h : w.ownsRow base e size (.slice A m cap) n xs) {b : Nat} (hne : ∀ x ∈ blkOf A, x ≠ b) (i : Nat) (v : Value) : (w.setCell ⟨b, i, none⟩ v).ownsRow base e size (.slice A m cap) n xs :=
  own_chg h ((Chg.refl [b] w).setCell (.inl (by simp)) i v) fun x hx hc => hne x hx (by simpa using hc)
/-- One of the member's own cells is written. -/
theorem MAt.store {w : World} {b : Nat} {a : MA} {m m' : Mb} (h : MAt w b a m) (i : Nat) (v : Value) (hc : (mbC m a).setIfInBounds i v = mbC m' a) (h1 : m'.log = m.log) (h2 : m'.votes = m.votes) (h3 : m'.prog = m.prog) : MAt (w.setCell ⟨b, i, none⟩ v) b a m' := by
  obtain ⟨a1, a2, a3, _⟩ := h.apart
  refine ⟨?_, by rw [h1]; exact own_setFar h.log a3 i v, by rw [h2]; exact h.votes.setCell a1 i v, by rw [h3]; exact own_setFar h.prog (fun x hx => by simp only [blkOf, List.mem_singleton] at hx; subst hx; exact a2) i v⟩
  have := blk_set (i := i) h.blk v
  rw [hc] at this
  exact this
theorem MAt.drew {w : World} {b : Nat} {a : MA} {m : Mb} (h : MAt w b a m) : MAt w.drew b a m := ⟨h.blk, h.log, h.votes.keep rfl, h.prog⟩
theorem MAt.many {w : World} {b : Nat} {a : MA} {m : Mb} (h : MAt w b a m) (n : Nat) : MAt (w.drewN n) b a m := ⟨h.blk, h.log, h.votes.keep rfl, h.prog⟩
/-- What became of the rest of memory while a member did something. -/
structure Step (w : World) (b : Nat) (a : MA) (w' : World) (a' : MA) : Prop where
  chg : Chg (foot b a) w w'
  sub : ∀ x ∈ foot b a', x ∈ foot b a ∨ w.heap.size ≤ x
theorem Step.refl (w : World) (b : Nat) (a : MA) : Step w b a w a := ⟨Chg.refl _ _, fun x hx => .inl hx⟩
theorem Step.of_below {w w' : World} {b : Nat} {a : MA} (h : Below w.heap.size w w') : Step w b a w' a := ⟨Chg.of_below h, fun x hx => .inl hx⟩
theorem Step.trans {w w1 w2 : World} {b : Nat} {a a1 a2 : MA} (h : Step w b a w1 a1) (k : Step w1 b a1 w2 a2) : Step w b a w2 a2 :=
  ⟨h.chg.trans k.chg h.sub, fun x hx => by
    rcases k.sub x hx with h1 | h1
    · exact h.sub x h1
    · exact .inr (Nat.le_trans h.chg.size h1)⟩
theorem Step.below {w w1 w2 : World} {b : Nat} {a a1 : MA} (h : Step w b a w1 a1) (k : Below w1.heap.size w1 w2) : Step w b a w2 a1 := h.trans (.of_below k)
theorem Step.pre {w w1 w2 : World} {b : Nat} {a a1 : MA} (k : Below w.heap.size w w1) (h : Step w1 b a w2 a1) : Step w b a w2 a1 := (Step.of_below k).trans h
theorem Step.store {w w1 : World} {b : Nat} {a a1 : MA} (h : Step w b a w1 a1) (i : Nat) (v : Value) : Step w b a (w1.setCell ⟨b, i, none⟩ v) a1 := ⟨h.chg.setCell (.inl (foot_b b a)) i v, h.sub⟩
theorem Step.drew {w w1 : World} {b : Nat} {a a1 : MA} (h : Step w b a w1 a1) : Step w b a w1.drew a1 := ⟨h.chg.drew, h.sub⟩
theorem Step.many {w w1 : World} {b : Nat} {a a1 : MA} (h : Step w b a w1 a1) (n : Nat) : Step w b a (w1.drewN n) a1 := ⟨h.chg.many n, h.sub⟩
/-- A block that is none of the member's, and was there, is none of them later. -/
theorem Step.out {w w' : World} {b : Nat} {a a' : MA} (h : Step w b a w' a') {F : Nat} (hF : F < w.heap.size) (hn : F ∉ foot b a) : F ∉ foot b a' := fun hc => by
  rcases h.sub F hc with h1 | h1
  · exact hn h1
  · omega
theorem Step.keep {w w' : World} {b : Nat} {a a' : MA} (h : Step w b a w' a') {F : Nat} {o : Obj} (hF : w.heap[F]? = some o) (hn : F ∉ foot b a) : w'.heap[F]? = some o := h.chg.keep hF hn
theorem MAt.new {w : World} {b : Nat} {a : MA} {m : Mb} (h : MAt w b a m) {F : Nat} (hF : w.heap.size ≤ F) : F ∉ foot b a := fun hc => by have := h.lt F hc; omega
/-! ### Messages -/
def Ms.cells (x : Ms) (a : Option Addr) (cap : Nat) : List Value := [.int .i64 x.kind, .int .i64 x.frm, .int .i64 x.dst, .int .i64 x.term, .int .i64 x.index, .int .i64 x.lterm, .int .i64 x.commit, .bool x.yes, .slice a x.ents.length cap]
abbrev Ms.val (x : Ms) (a : Option Addr) (cap : Nat) : Value := .agg #[.int .i64 x.kind, .int .i64 x.frm, .int .i64 x.dst, .int .i64 x.term, .int .i64 x.index, .int .i64 x.lterm, .int .i64 x.commit, .bool x.yes, .slice a x.ents.length cap]
def msV : List Ms → List (Option Addr × Nat) → List Value
  | [], _ => []
  | x :: xs, sl => x.cells (sl.headD (none, 0)).1 (sl.headD (none, 0)).2 ++ msV xs sl.tail
theorem msV_length (ms : List Ms) (sl : List (Option Addr × Nat)) : (msV ms sl).length = ms.length * 9 := by
  induction ms generalizing sl with
  | nil => rfl
  | cons m ms ih => rw [msV, List.length_append, ih, List.length_cons]; simp only [Ms.cells, List.length_cons, List.length_nil]; omega
theorem msV_snoc {ms : List Ms} {sl : List (Option Addr × Nat)} (h : sl.length = ms.length) (x : Ms) (s : Option Addr × Nat) : msV (ms ++ [x]) (sl ++ [s]) = msV ms sl ++ x.cells s.1 s.2 := by
  induction ms generalizing sl with
  | nil =>
    obtain rfl := List.eq_nil_of_length_eq_zero h
    simp [msV]
  | cons m ms ih =>
    cases sl with
    | nil => simp at h
    | cons t sl =>
      simp only [List.length_cons, Nat.add_right_cancel_iff] at h
      simp only [List.cons_append, msV, List.headD_cons, List.tail_cons]
      rw [ih h, List.append_assoc]
theorem msV_at {ms : List Ms} {sl : List (Option Addr × Nat)} {k j : Nat} (hk : k < ms.length) (hj : j < 9) : (msV ms sl)[k * 9 + j]? = ((ms[k]).cells (sl.getD k (none, 0)).1 (sl.getD k (none, 0)).2)[j]? := by
  induction ms generalizing sl k with
  | nil => simp at hk
  | cons m ms ih =>
    rw [msV]
    cases k with
    | zero =>
      rw [List.getElem?_append_left (by simp only [Ms.cells, List.length_cons, List.length_nil]; omega), Nat.zero_mul, Nat.zero_add]
      cases sl <;> rfl
    | succ k =>
      rw [List.getElem?_append_right (by simp only [Ms.cells, List.length_cons, List.length_nil]; omega), show (k + 1) * 9 + j - (m.cells (sl.headD (none, 0)).1 (sl.headD (none, 0)).2).length = k * 9 + j by simp only [Ms.cells, List.length_cons, List.length_nil]; omega, ih (by simpa using hk)]
      cases sl <;> rfl
theorem msC_one (x : Ms) (a : Option Addr) (cap : Nat) : ∀ u ∈ x.cells a cap, u.oneCell' = true := by
  intro u hu
  simp only [Ms.cells, List.mem_cons, List.not_mem_nil, or_false] at hu
  rcases hu with rfl | rfl | rfl | rfl | rfl | rfl | rfl | rfl | rfl <;> rfl
theorem msV_one (ms : List Ms) (sl : List (Option Addr × Nat)) : ∀ u ∈ msV ms sl, u.oneCell' = true := by
  induction ms generalizing sl with
  | nil => intro u hu; cases hu
  | cons m ms ih =>
    intro u hu
    rcases List.mem_append.1 hu with h | h
    · exact msC_one _ _ _ u h
    · exact ih _ u h
theorem elemM : Elem Try.prog 32 37 (.agg #[.int .i64 0, .int .i64 0, .int .i64 0, .int .i64 0, .int .i64 0, .int .i64 0, .int .i64 0, .bool false, .slice none 0 0]) 9 88 := ⟨Try.underlying32, by kernel_rfl, rfl, by omega⟩
/-- Messages that are a call's own: their row, and each one's entries. -/
structure MsAt (w : World) (base : Nat) (A : Option Addr) (c : Nat) (ms : List Ms) (sl : List (Option Addr × Nat)) : Prop where
  own : w.ownsRow base 37 9 (.slice A ms.length c) ms.length (msV ms sl)
  len : sl.length = ms.length
  ents : ∀ k, (hk : k < ms.length) → w.ownsRow base 47 7 (.slice (sl.getD k (none, 0)).1 (ms[k]).ents.length (sl.getD k (none, 0)).2) (ms[k]).ents.length (ensV (ms[k]).ents)
theorem MsAt.nil (w : World) (base : Nat) : MsAt w base none 0 [] [] := ⟨World.ownsRow_nil _ _ _ _, rfl, fun k hk => by simp at hk⟩
theorem MsAt.below {w w' : World} {base : Nat} {A : Option Addr} {c : Nat} {ms : List Ms} {sl : List (Option Addr × Nat)} (h : MsAt w base A c ms sl) (hb : Below w.heap.size w w') : MsAt w' base A c ms sl :=
  ⟨own_below h.own hb, h.len, fun k hk => own_below (h.ents k hk) hb⟩
theorem MsAt.base {w : World} {base base' : Nat} {A : Option Addr} {c : Nat} {ms : List Ms} {sl : List (Option Addr × Nat)} (h : MsAt w base A c ms sl) (hb : base' ≤ base) : MsAt w base' A c ms sl :=
  ⟨own_base h.own hb, h.len, fun k hk => own_base (h.ents k hk) hb⟩
/-- Messages are handed back, and nothing that was there has changed. -/
def RetMs (ms : List Ms) (w : World) (en : Ending) (w' : World) : Prop := ∃ A c sl, en = .returned (.slice A ms.length c) ∧ MsAt w' w.heap.size A c ms sl ∧ Below w.heap.size w w'
/-- A message is handed back, and nothing that was there has changed. -/
def RetM (x : Ms) (w : World) (en : Ending) (w' : World) : Prop := ∃ a c, en = .returned (x.val a c) ∧ w'.ownsRow w.heap.size 47 7 (.slice a x.ents.length c) x.ents.length (ensV x.ents) ∧ Below w.heap.size w w'
/-- A member has done something and says this. -/
def RetR (m' : Mb) (ms : List Ms) (b : Nat) (a : MA) (w : World) (en : Ending) (w' : World) : Prop :=
  ∃ a' B A c sl, en = .returned (.slice A ms.length c) ∧ MAt w' b a' m' ∧ Step w b a w' a' ∧ w.heap.size ≤ B ∧ (∀ x ∈ foot b a', x < B) ∧ MsAt w' B A c ms sl
/-- A member has done something. -/
def RetU (m' : Mb) (b : Nat) (a : MA) (v : Value) (w : World) (en : Ending) (w' : World) : Prop := ∃ a', en = .returned v ∧ MAt w' b a' m' ∧ Step w b a w' a'
end Go.Proofs.Ytlejbhgginolgaa
