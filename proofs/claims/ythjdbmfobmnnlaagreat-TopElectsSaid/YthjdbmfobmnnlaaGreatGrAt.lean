/-
  How a group lies in memory.
-/
import Derived.Test.YthjdbmfobmnnlaaGreatGp
import Derived.Test.YthjdbmfobmnnlaaGreatBn
import Derived.Test.YthjdbmfobmnnlaaGreatBe
namespace Go.Proofs.YthjdbmfobmnnlaaGreat
open Go.RowKit
set_option linter.unusedVariables false
/-! ### How a group lies in memory -/
/-- Where a member lies: its block, its parts, its disk's block, its disk's rows. -/
structure ML where
  b : Nat
  a : MA
  v : Nat
  r : List Nat
/-- Where a group's parts lie: its members, the row of them, what is on its way. -/
structure GL where
  mem : List ML
  ma : Nat
  mc : Nat
  na : Option Addr
  nc : Nat
  sl : List (Option Addr × Nat)
def ptrV (l : List ML) : List Value := l.flatMap fun q => [.pointer (some ⟨q.b, 0, none⟩), .pointer (some ⟨q.v, 0, none⟩)]
theorem ptrV_cons (q : ML) (l : List ML) : ptrV (q :: l) = .pointer (some ⟨q.b, 0, none⟩) :: .pointer (some ⟨q.v, 0, none⟩) :: ptrV l := rfl
theorem ptrV_length (l : List ML) : (ptrV l).length = l.length * 2 := by
  induction l with
  | nil => rfl
  | cons p l ih => rw [ptrV_cons, List.length_cons, List.length_cons, ih, List.length_cons]; omega
theorem ptrV_at {l : List ML} {k : Nat} {q : ML} (hk : l[k]? = some q) : (ptrV l)[k * 2]? = some (.pointer (some ⟨q.b, 0, none⟩)) ∧ (ptrV l)[k * 2 + 1]? = some (.pointer (some ⟨q.v, 0, none⟩)) := by
  induction l generalizing k with
  | nil => simp at hk
  | cons p l ih =>
    rw [ptrV_cons]
    cases k with
    | zero =>
      simp at hk
      subst hk
      exact ⟨rfl, rfl⟩
    | succ k =>
      have := ih (k := k) (by simpa using hk)
      rw [show (k + 1) * 2 = k * 2 + 1 + 1 by omega]
      simpa using this
theorem ptrV_set {l : List ML} {k : Nat} {q : ML} (hk : l[k]? = some q) (q' : ML) (hv : q'.v = q.v) : ptrV (l.set k q') = (ptrV l).set (k * 2) (.pointer (some ⟨q'.b, 0, none⟩)) := by
  induction l generalizing k with
  | nil => simp at hk
  | cons p l ih =>
    cases k with
    | zero =>
      simp at hk
      subst hk
      rw [List.set_cons_zero, ptrV_cons, ptrV_cons, hv]
      rfl
    | succ k =>
      rw [List.set_cons_succ, ptrV_cons, ptrV_cons, ih (by simpa using hk), show (k + 1) * 2 = k * 2 + 1 + 1 by omega]
      rfl
theorem ptrV_same {l : List ML} {k : Nat} {q : ML} (hk : l[k]? = some q) (q' : ML) (hb : q'.b = q.b) (hv : q'.v = q.v) : ptrV (l.set k q') = ptrV l := by
  rw [ptrV_set hk q' hv, hb]
  have h := (ptrV_at hk).1
  obtain ⟨h1, h2⟩ := List.getElem?_eq_some_iff.1 h
  rw [← h2, List.set_getElem_self]
abbrev gC (n k : Nat) (L : GL) : Array Value := #[.slice (some ⟨L.ma, 0, none⟩) n L.mc, .slice L.na k L.nc]
structure GAt (w : World) (G : Nat) (L : GL) (g : Gr) : Prop where
  blk : w.heap[G]? = some (.cells (gC g.ms.length g.net.length L) 57)
  len : L.mem.length = g.ms.length
  row : w.heap[L.ma]? = some (.cells (ptrV L.mem).toArray 62)
  mem : ∀ (i : Nat) (q : ML) (p : Mb × Vt), L.mem[i]? = some q → g.ms[i]? = some p → MAt w q.b q.a p.1 ∧ VtAt w q.v (q.v + 1) (fun y => y ∈ q.r) p.2
  net : MsAt w 0 L.na L.nc g.net L.sl
  apart : ∀ (i j : Nat) (q r : ML), i ≠ j → L.mem[i]? = some q → L.mem[j]? = some r → (∀ x ∈ foot q.b q.a, x ∉ foot r.b r.a) ∧ q.v ≠ r.v
  rows : ∀ q ∈ L.mem, ∀ r ∈ L.mem, ∀ x ∈ q.r, x ∉ foot r.b r.a
  sep : ∀ s ∈ L.sl, ∀ x ∈ blkOf s.1, ∀ r ∈ L.mem, x ∉ foot r.b r.a
  lt : ∀ q ∈ L.mem, ∀ x ∈ q.r, x < w.heap.size
/-- The blocks of a group. -/
def gall (G : Nat) (L : GL) : List Nat := G :: L.ma :: (blkOf L.na ++ (L.mem.flatMap fun q => foot q.b q.a ++ q.v :: q.r) ++ L.sl.flatMap fun s => blkOf s.1)
theorem gall_G (G : Nat) (L : GL) : G ∈ gall G L := by simp [gall]
theorem gall_ma (G : Nat) (L : GL) : L.ma ∈ gall G L := by simp [gall]
theorem gall_na {G : Nat} {L : GL} {x : Nat} (h : x ∈ blkOf L.na) : x ∈ gall G L := by simp [gall, h]
theorem gall_foot {G : Nat} {L : GL} {q : ML} (hq : q ∈ L.mem) {x : Nat} (h : x ∈ foot q.b q.a) : x ∈ gall G L := by
  simp only [gall, List.mem_cons, List.mem_append, List.mem_flatMap]
  exact .inr (.inr (.inl (.inr ⟨q, hq, .inl h⟩)))
theorem gall_v {G : Nat} {L : GL} {q : ML} (hq : q ∈ L.mem) : q.v ∈ gall G L := by
  simp only [gall, List.mem_cons, List.mem_append, List.mem_flatMap]
  exact .inr (.inr (.inl (.inr ⟨q, hq, .inr (.inl rfl)⟩)))
theorem gall_r {G : Nat} {L : GL} {q : ML} (hq : q ∈ L.mem) {x : Nat} (h : x ∈ q.r) : x ∈ gall G L := by
  simp only [gall, List.mem_cons, List.mem_append, List.mem_flatMap]
  exact .inr (.inr (.inl (.inr ⟨q, hq, .inr (.inr h)⟩)))
theorem gall_s {G : Nat} {L : GL} {s : Option Addr × Nat} (hs : s ∈ L.sl) {x : Nat} (h : x ∈ blkOf s.1) : x ∈ gall G L := by
  simp only [gall, List.mem_cons, List.mem_append, List.mem_flatMap]
  exact .inr (.inr (.inr ⟨s, hs, h⟩))
theorem gall_cases {G : Nat} {L : GL} {x : Nat} (h : x ∈ gall G L) : x = G ∨ x = L.ma ∨ x ∈ blkOf L.na ∨ (∃ q ∈ L.mem, x ∈ foot q.b q.a ∨ x = q.v ∨ x ∈ q.r) ∨ ∃ s ∈ L.sl, x ∈ blkOf s.1 := by
  simp only [gall, List.mem_cons, List.mem_append, List.mem_flatMap] at h
  rcases h with h | h | (h | ⟨q, hq, h⟩) | h
  · exact .inl h
  · exact .inr (.inl h)
  · exact .inr (.inr (.inl h))
  · exact .inr (.inr (.inr (.inl ⟨q, hq, h⟩)))
  · exact .inr (.inr (.inr (.inr h)))
/-- What became of memory while a group did something. -/
structure GStep (w : World) (G : Nat) (L : GL) (w' : World) (L' : GL) : Prop where
  chg : Chg (gall G L) w w'
  sub : ∀ x ∈ gall G L', x ∈ gall G L ∨ w.heap.size ≤ x
theorem GStep.refl (w : World) (G : Nat) (L : GL) : GStep w G L w L := ⟨Chg.refl _ _, fun x hx => .inl hx⟩
theorem GStep.of_below {w w' : World} {G : Nat} {L : GL} (h : Below w.heap.size w w') : GStep w G L w' L := ⟨Chg.of_below h, fun x hx => .inl hx⟩
theorem GStep.trans {w w1 w2 : World} {G : Nat} {L L1 L2 : GL} (h : GStep w G L w1 L1) (k : GStep w1 G L1 w2 L2) : GStep w G L w2 L2 :=
  ⟨h.chg.trans k.chg h.sub, fun x hx => by
    rcases k.sub x hx with h1 | h1
    · exact h.sub x h1
    · exact .inr (Nat.le_trans h.chg.size h1)⟩
theorem GStep.below {w w1 w2 : World} {G : Nat} {L L1 : GL} (h : GStep w G L w1 L1) (k : Below w1.heap.size w1 w2) : GStep w G L w2 L1 := h.trans (.of_below k)
theorem GStep.pre {w w1 w2 : World} {G : Nat} {L L1 : GL} (k : Below w.heap.size w w1) (h : GStep w1 G L w2 L1) : GStep w G L w2 L1 := (GStep.of_below k).trans h
/-- What kinds of blocks a member's are. -/
theorem MAt.kind {w : World} {b : Nat} {a : MA} {m : Mb} (h : MAt w b a m) {x : Nat} (hx : x ∈ foot b a) {cs : Array Value} {t : TypeId} (hc : w.heap[x]? = some (.cells cs t)) : t = 126 ∨ t = 183 ∨ t = 82 := by
  obtain ⟨hb, hl, ⟨D, ⟨es, clock, hv, _⟩, _⟩, hp⟩ := h
  simp only [foot, List.cons_append, List.nil_append, List.mem_cons] at hx
  rcases hx with rfl | rfl | rfl | hx
  · rw [hb] at hc; injection hc with hc; injection hc with _ hc; exact .inl hc.symm
  · rw [hv] at hc; cases hc
  · rcases hp.2 with ⟨h2, _⟩ | ⟨g, cap, cur, hv', hg, hh, r⟩
    · cases h2
    · injection hv' with h1; injection h1 with h1; injection h1 with h1; subst h1
      rw [hh] at hc; injection hc with hc; injection hc with _ hc; exact .inr (.inl hc.symm)
  · rcases hl.2 with ⟨h2, _⟩ | ⟨g, cap, cur, hv', hg, hh, r⟩
    · injection h2 with h1; rw [h1] at hx; cases hx
    · injection hv' with h1; rw [h1] at hx; simp only [blkOf, List.mem_singleton] at hx; subst hx
      rw [hh] at hc; injection hc with hc; injection hc with _ hc; exact .inr (.inr hc.symm)
/-- The block of a row is a block of its elements. -/
theorem own_kind {w : World} {base : Nat} {e : TypeId} {size : Nat} {A : Option Addr} {m cap : Nat} {n : Nat} {xs : List Value} (h : w.ownsRow base e size (.slice A m cap) n xs) {x : Nat} (hx : x ∈ blkOf A) : ∃ cs, w.heap[x]? = some (.cells cs e) := by
  rcases h.2 with ⟨h2, _⟩ | ⟨g, cap, cur, hv', hg, hh, r⟩
  · injection h2 with h1; rw [h1] at hx; cases hx
  · injection hv' with h1; rw [h1] at hx; simp only [blkOf, List.mem_singleton] at hx; subst hx
    exact ⟨_, hh⟩
theorem ne_kind {w : World} {x y : Nat} {cs ds : Array Value} {t u : TypeId} (hx : w.heap[x]? = some (.cells cs t)) (hy : w.heap[y]? = some (.cells ds u)) (h : t ≠ u) : x ≠ y := fun e => by
  subst e
  rw [hx] at hy
  injection hy with hy
  injection hy with _ hy
  exact h hy
theorem VtAt.blkV {w : World} {V base : Nat} {P : Nat → Prop} {x : Vt} (h : VtAt w V base P x) : ∃ cs, w.heap[V]? = some (.cells cs 118) := by
  obtain ⟨D, cd, A, c, g, _⟩ := h
  exact ⟨_, g⟩
theorem VtAt.chg {S : List Nat} {w w' : World} {V base : Nat} {r : List Nat} {x : Vt} (h : VtAt w V base (fun y => y ∈ r) x) (hc : Chg S w w') (hV : V ∉ S) (hr : ∀ y ∈ r, y ∉ S) : VtAt w' V base (fun y => y ∈ r) x := by
  obtain ⟨D, cd, A, c, g, o1, o2, oP⟩ := h
  exact ⟨D, cd, A, c, hc.keep g hV, own_chg o1 hc fun y hy => hr y (oP y (List.mem_append.2 (.inl hy))), own_chg o2 hc fun y hy => hr y (oP y (List.mem_append.2 (.inr hy))), oP⟩
theorem MsAt.chg {S : List Nat} {w w' : World} {base : Nat} {A : Option Addr} {c : Nat} {ms : List Ms} {sl : List (Option Addr × Nat)} (h : MsAt w base A c ms sl) (hc : Chg S w w') (hA : ∀ y ∈ blkOf A, y ∉ S) (hs : ∀ s ∈ sl, ∀ y ∈ blkOf s.1, y ∉ S) : MsAt w' base A c ms sl := by
  refine ⟨own_chg h.own hc hA, h.len, fun k hk => own_chg (h.ents k hk) hc fun y hy => ?_⟩
  have hk2 : k < sl.length := by rw [h.len]; exact hk
  rw [List.getD_eq_getElem?_getD, List.getElem?_eq_getElem hk2] at hy
  exact hs _ (List.getElem_mem hk2) y hy
namespace GAt
variable {w w' : World} {G : Nat} {L : GL} {g : Gr}
theorem pairOf (h : GAt w G L g) {i : Nat} {q : ML} (hq : L.mem[i]? = some q) : ∃ p, g.ms[i]? = some p ∧ MAt w q.b q.a p.1 ∧ VtAt w q.v (q.v + 1) (fun y => y ∈ q.r) p.2 := by
  have hi := (List.getElem?_eq_some_iff.1 hq).1
  have hi2 : i < g.ms.length := by rw [← h.len]; exact hi
  exact ⟨_, List.getElem?_eq_getElem hi2, h.mem i q _ hq (List.getElem?_eq_getElem hi2)⟩
theorem notG (h : GAt w G L g) {q : ML} (hq : q ∈ L.mem) : G ∉ foot q.b q.a := fun hc => by
  obtain ⟨i, hi⟩ := List.getElem?_of_mem hq
  obtain ⟨p, _, hm, _⟩ := h.pairOf hi
  rcases hm.kind hc h.blk with e | e | e <;> exact absurd e (by decide)
theorem notMa (h : GAt w G L g) {q : ML} (hq : q ∈ L.mem) : L.ma ∉ foot q.b q.a := fun hc => by
  obtain ⟨i, hi⟩ := List.getElem?_of_mem hq
  obtain ⟨p, _, hm, _⟩ := h.pairOf hi
  rcases hm.kind hc h.row with e | e | e <;> exact absurd e (by decide)
theorem notV (h : GAt w G L g) {q r : ML} (hq : q ∈ L.mem) (hr : r ∈ L.mem) : r.v ∉ foot q.b q.a := fun hc => by
  obtain ⟨i, hi⟩ := List.getElem?_of_mem hq
  obtain ⟨p, _, hm, _⟩ := h.pairOf hi
  obtain ⟨j, hj⟩ := List.getElem?_of_mem hr
  obtain ⟨p', _, _, hv⟩ := h.pairOf hj
  obtain ⟨cs, hcs⟩ := hv.blkV
  rcases hm.kind hc hcs with e | e | e <;> exact absurd e (by decide)
theorem notNa (h : GAt w G L g) {q : ML} (hq : q ∈ L.mem) {x : Nat} (hx : x ∈ blkOf L.na) : x ∉ foot q.b q.a := fun hc => by
  obtain ⟨i, hi⟩ := List.getElem?_of_mem hq
  obtain ⟨p, _, hm, _⟩ := h.pairOf hi
  obtain ⟨cs, hcs⟩ := own_kind h.net.own hx
  rcases hm.kind hc hcs with e | e | e <;> exact absurd e (by decide)
theorem slBlk (h : GAt w G L g) {s : Option Addr × Nat} (hs : s ∈ L.sl) {x : Nat} (hx : x ∈ blkOf s.1) : ∃ cs, w.heap[x]? = some (.cells cs 82) := by
  obtain ⟨k, hk⟩ := List.getElem?_of_mem hs
  obtain ⟨hk1, hk2⟩ := List.getElem?_eq_some_iff.1 hk
  have := h.net.ents k (by rw [← h.net.len]; exact hk1)
  rw [List.getD_eq_getElem?_getD, hk] at this
  exact own_kind this hx
theorem chgOut {S : List Nat} (h : GAt w G L g) (hc : Chg S w w') (hS : ∀ x ∈ gall G L, x ∉ S) : GAt w' G L g := by
  refine ⟨hc.keep h.blk (hS _ (gall_G G L)), h.len, hc.keep h.row (hS _ (gall_ma G L)), fun i q p hq hp => ?_, h.net.chg hc (fun y hy => hS y (gall_na hy)) (fun s hs y hy => hS y (gall_s hs hy)), h.apart, h.rows, h.sep, fun q hq x hx => Nat.lt_of_lt_of_le (h.lt q hq x hx) hc.size⟩
  have hqm := List.mem_of_getElem? hq
  obtain ⟨h1, h2⟩ := h.mem i q p hq hp
  exact ⟨h1.chg hc fun x hx => hS x (gall_foot hqm hx), h2.chg hc (hS _ (gall_v hqm)) fun y hy => hS y (gall_r hqm hy)⟩
theorem below (h : GAt w G L g) (hb : Below w.heap.size w w') : GAt w' G L g := h.chgOut (S := []) (Chg.of_below hb) fun x _ hx => by cases hx
theorem drew (h : GAt w G L g) : GAt w.drew G L g := h.below (Below.refl _ _).drew
theorem many (h : GAt w G L g) (n : Nat) : GAt (w.drewN n) G L g := h.below (Below.many (below0 w) n)
theorem gltAll (h : GAt w G L g) : ∀ x ∈ gall G L, x < w.heap.size := by
  intro x hx
  rcases gall_cases hx with rfl | rfl | hx | ⟨q, hq, hx⟩ | ⟨s, hs, hx⟩
  · exact blk_lt h.blk
  · exact blk_lt h.row
  · obtain ⟨cs, hcs⟩ := own_kind h.net.own hx
    exact blk_lt hcs
  · obtain ⟨i, hi⟩ := List.getElem?_of_mem hq
    obtain ⟨p, _, hm, hv⟩ := h.pairOf hi
    rcases hx with hx | rfl | hx
    · exact hm.lt x hx
    · obtain ⟨cs, hcs⟩ := hv.blkV
      exact blk_lt hcs
    · exact h.lt q hq x hx
  · obtain ⟨cs, hcs⟩ := h.slBlk hs hx
    exact blk_lt hcs
end GAt
theorem getElem?_set_cases {α : Type} {l : List α} {i j : Nat} {x y : α} (h : (l.set i x)[j]? = some y) : (i = j ∧ y = x) ∨ (i ≠ j ∧ l[j]? = some y) := by
  rw [List.getElem?_set] at h
  split at h
  · rename_i e
    split at h
    · injection h with h; exact .inl ⟨e, h.symm⟩
    · cases h
  · rename_i e
    exact .inr ⟨e, h⟩
theorem mem_set_cases {α : Type} {l : List α} {i : Nat} {x y : α} (h : y ∈ l.set i x) : y = x ∨ y ∈ l := (List.mem_or_eq_of_mem_set h).symm
/-- A block of another kind is written. -/
theorem VtAt.chgRow {w w' : World} {V base M : Nat} {P : Nat → Prop} {x : Vt} (h : VtAt w V base P x) {cs : Array Value} {t : TypeId} (hM : w.heap[M]? = some (.cells cs t)) (h1 : t ≠ 118) (h2 : t ≠ 5) (h3 : t ≠ 82) (hc : Chg [M] w w') : VtAt w' V base P x := by
  obtain ⟨D, cd, A, c, g, o1, o2, oP⟩ := h
  refine ⟨D, cd, A, c, hc.keep g (by rw [List.mem_singleton]; exact ne_kind g hM (Ne.symm h1)), own_chg o1 hc fun y hy => ?_, own_chg o2 hc fun y hy => ?_, oP⟩
  · rw [List.mem_singleton]
    obtain ⟨ds, hds⟩ := own_kind o1 hy
    exact ne_kind hds hM (Ne.symm h2)
  · rw [List.mem_singleton]
    obtain ⟨ds, hds⟩ := own_kind o2 hy
    exact ne_kind hds hM (Ne.symm h3)
/-- The layout with another place for a member. -/
abbrev GL.put (L : GL) (i : Nat) (q : ML) : GL := { L with mem := L.mem.set i q }
namespace GAt
variable {w w' : World} {G : Nat} {L : GL} {g : Gr}
/-- A member has done something. -/
theorem step (h : GAt w G L g) {i : Nat} {q : ML} {p : Mb × Vt} (hq : L.mem[i]? = some q) (hp : g.ms[i]? = some p) {a' : MA} {m' : Mb} (hm : MAt w' q.b a' m') (hs : Step w q.b q.a w' a') :
    GAt w' G (L.put i { q with a := a' }) ⟨g.ms.set i (m', p.2), g.net⟩ ∧ GStep w G L w' (L.put i { q with a := a' }) := by
  have hqm := List.mem_of_getElem? hq
  have hsub : ∀ r ∈ L.mem, ∀ x ∈ r.r, x < w.heap.size := h.lt
  have hnew : ∀ x, x ∈ foot q.b a' → x ∈ foot q.b q.a ∨ w.heap.size ≤ x := hs.sub
  refine ⟨⟨?_, ?_, ?_, ?_, ?_, ?_, ?_, ?_, ?_⟩, ⟨hs.chg.mono fun x hx => .inl (gall_foot hqm hx), ?_⟩⟩
  · have := hs.chg.keep h.blk (h.notG hqm)
    simp only [List.length_set]
    exact this
  · simp only [List.length_set]; exact h.len
  · have := hs.chg.keep h.row (h.notMa hqm)
    show w'.heap[L.ma]? = some (.cells (ptrV (L.mem.set i { q with a := a' })).toArray _)
    rw [ptrV_same hq { q with a := a' } rfl rfl]
    exact this
  · intro j r p' hr hp'
    rcases getElem?_set_cases hr with ⟨rfl, rfl⟩ | ⟨hne, hr⟩
    · rcases getElem?_set_cases hp' with ⟨_, rfl⟩ | ⟨hne, _⟩
      · exact ⟨hm, (h.mem _ q p hq hp).2.chg hs.chg (h.notV hqm hqm) fun y hy => h.rows q hqm q hqm y hy⟩
      · exact (hne rfl).elim
    · rcases getElem?_set_cases hp' with ⟨e, _⟩ | ⟨_, hp'⟩
      · exact (hne e).elim
      · obtain ⟨h1, h2⟩ := h.mem j r p' hr hp'
        have hrm := List.mem_of_getElem? hr
        exact ⟨h1.chg hs.chg fun x hx hc => (h.apart i j q r hne hq hr).1 x hc hx, h2.chg hs.chg (h.notV hqm hrm) fun y hy => h.rows r hrm q hqm y hy⟩
  · exact h.net.chg hs.chg (fun y hy => h.notNa hqm hy) fun s hs' y hy => h.sep s hs' y hy q hqm
  · intro j k r s hne hr hs'
    rcases getElem?_set_cases hr with ⟨e1, rfl⟩ | ⟨n1, hr⟩ <;> rcases getElem?_set_cases hs' with ⟨e2, rfl⟩ | ⟨n2, hs'⟩
    · exact (hne (e1.symm.trans e2)).elim
    · obtain ⟨q1, q2⟩ := h.apart i k q s n2 hq hs'
      refine ⟨fun x hx => ?_, q2⟩
      rcases hnew x hx with h1 | h1
      · exact q1 x h1
      · intro hc
        obtain ⟨p', _, hm', _⟩ := h.pairOf hs'
        have := hm'.lt x hc
        omega
    · obtain ⟨q1, q2⟩ := h.apart j i r q (fun e => n1 e.symm) hr hq
      refine ⟨fun x hx hc => ?_, q2⟩
      rcases hnew x hc with h1 | h1
      · exact q1 x hx h1
      · obtain ⟨p', _, hm', _⟩ := h.pairOf hr
        have := hm'.lt x hx
        omega
    · exact h.apart j k r s hne hr hs'
  · intro r hr s hs' x hx
    have hr' : ∃ r' ∈ L.mem, x ∈ r'.r := by
      rcases mem_set_cases hr with rfl | hr
      · exact ⟨q, hqm, hx⟩
      · exact ⟨r, hr, hx⟩
    obtain ⟨r', hr', hx⟩ := hr'
    rcases mem_set_cases hs' with rfl | hs'
    · intro hc
      rcases hnew x hc with h1 | h1
      · exact h.rows r' hr' q hqm x hx h1
      · have := hsub r' hr' x hx; omega
    · exact h.rows r' hr' s hs' x hx
  · intro s hs' x hx r hr
    rcases mem_set_cases hr with rfl | hr
    · intro hc
      rcases hnew x hc with h1 | h1
      · exact h.sep s hs' x hx q hqm h1
      · obtain ⟨cs, hcs⟩ := h.slBlk hs' hx
        have := blk_lt hcs
        omega
    · exact h.sep s hs' x hx r hr
  · intro r hr x hx
    rcases mem_set_cases hr with rfl | hr
    · exact Nat.lt_of_lt_of_le (hsub q hqm x hx) hs.chg.size
    · exact Nat.lt_of_lt_of_le (hsub r hr x hx) hs.chg.size
  · intro x hx
    rcases gall_cases hx with rfl | rfl | hx | ⟨r, hr, hx⟩ | ⟨s, hs', hx⟩
    · exact .inl (gall_G _ _)
    · exact .inl (gall_ma _ _)
    · exact .inl (gall_na hx)
    · rcases mem_set_cases hr with rfl | hr
      · rcases hx with hx | rfl | hx
        · rcases hnew x hx with h1 | h1
          · exact .inl (gall_foot hqm h1)
          · exact .inr h1
        · exact .inl (show q.v ∈ gall G L from gall_v hqm)
        · exact .inl (gall_r hqm hx)
      · rcases hx with hx | rfl | hx
        · exact .inl (gall_foot hr hx)
        · exact .inl (gall_v hr)
        · exact .inl (gall_r hr hx)
    · exact .inl (show x ∈ gall G L from gall_s (L := L) hs' hx)
/-- A disk has done something. -/
theorem disk (h : GAt w G L g) {i : Nat} {q : ML} {p : Mb × Vt} (hq : L.mem[i]? = some q) (hp : g.ms[i]? = some p) {x' : Vt} (hO : Only q.v w w') (hv : VtAt w' q.v (q.v + 1) (fun y => y ∈ q.r ∨ w.heap.size ≤ y) x') :
    ∃ L', GAt w' G L' ⟨g.ms.set i (p.1, x'), g.net⟩ ∧ GStep w G L w' L' ∧ ∃ r, L' = L.put i { q with r := r } := by
  have hqm := List.mem_of_getElem? hq
  have hC : Chg [q.v] w w' := ⟨hO.os, hO.tape, hO.output, hO.size, fun k hk hne => hO.block k hk (by simpa using hne)⟩
  obtain ⟨D, cd, A, c, gV, o1, o2, oP⟩ := hv
  obtain ⟨pq, _, hmq, hvq⟩ := h.pairOf hq
  obtain ⟨csV, hcsV⟩ := hvq.blkV
  have hnew : ∀ y ∈ blkOf D ++ blkOf A, y ∈ q.r ∨ w.heap.size ≤ y := oP
  have hfoot : ∀ r ∈ L.mem, ∀ x ∈ foot r.b r.a, x ∉ [q.v] := fun r hr x hx hc => by
    rw [List.mem_singleton] at hc
    subst hc
    exact h.notV hr hqm hx
  refine ⟨L.put i { q with r := blkOf D ++ blkOf A }, ⟨?_, ?_, ?_, ?_, ?_, ?_, ?_, ?_, ?_⟩, ⟨hC.mono fun x hx => by rw [List.mem_singleton] at hx; subst hx; exact .inl (show q.v ∈ gall G L from gall_v hqm), ?_⟩, _, rfl⟩
  · have := hC.keep h.blk (by rw [List.mem_singleton]; exact ne_kind h.blk hcsV (by decide))
    simp only [List.length_set]
    exact this
  · simp only [List.length_set]; exact h.len
  · have := hC.keep h.row (by rw [List.mem_singleton]; exact ne_kind h.row hcsV (by decide))
    show w'.heap[L.ma]? = some (.cells (ptrV (L.mem.set i { q with r := blkOf D ++ blkOf A })).toArray _)
    rw [ptrV_same hq { q with r := blkOf D ++ blkOf A } rfl rfl]
    exact this
  · intro j r p' hr hp'
    rcases getElem?_set_cases hr with ⟨rfl, rfl⟩ | ⟨hne, hr⟩
    · rcases getElem?_set_cases hp' with ⟨_, rfl⟩ | ⟨hne, _⟩
      · exact ⟨(h.mem _ q p hq hp).1.chg hC (hfoot q hqm), ⟨D, cd, A, c, gV, o1, o2, fun y hy => hy⟩⟩
      · exact (hne rfl).elim
    · rcases getElem?_set_cases hp' with ⟨e, _⟩ | ⟨_, hp'⟩
      · exact (hne e).elim
      · obtain ⟨h1, h2⟩ := h.mem j r p' hr hp'
        have hrm := List.mem_of_getElem? hr
        refine ⟨h1.chg hC (hfoot r hrm), ?_⟩
        obtain ⟨D2, cd2, A2, c2, gV2, u1, u2, uP⟩ := h2
        refine ⟨D2, cd2, A2, c2, hC.keep gV2 (by rw [List.mem_singleton]; exact fun e => (h.apart i j q r hne hq hr).2 e.symm), own_chg u1 hC fun y hy => ?_, own_chg u2 hC fun y hy => ?_, uP⟩
        · rw [List.mem_singleton]
          obtain ⟨cs, hcs⟩ := own_kind u1 hy
          exact ne_kind hcs hcsV (by decide)
        · rw [List.mem_singleton]
          obtain ⟨cs, hcs⟩ := own_kind u2 hy
          exact ne_kind hcs hcsV (by decide)
  · refine h.net.chg hC (fun y hy => ?_) fun s hs' y hy => ?_
    · rw [List.mem_singleton]
      obtain ⟨cs, hcs⟩ := own_kind h.net.own hy
      exact ne_kind hcs hcsV (by decide)
    · rw [List.mem_singleton]
      obtain ⟨cs, hcs⟩ := h.slBlk hs' hy
      exact ne_kind hcs hcsV (by decide)
  · intro j k r s hne hr hs'
    have f : ∀ {j : Nat} {r : ML}, (L.mem.set i { q with r := blkOf D ++ blkOf A })[j]? = some r → ∃ r', L.mem[j]? = some r' ∧ r.b = r'.b ∧ r.a = r'.a ∧ r.v = r'.v := fun hr => by
      rcases getElem?_set_cases hr with ⟨rfl, rfl⟩ | ⟨_, hr⟩
      · exact ⟨q, hq, rfl, rfl, rfl⟩
      · exact ⟨_, hr, rfl, rfl, rfl⟩
    obtain ⟨r', h1, e1, e2, e3⟩ := f hr
    obtain ⟨s', h2, f1, f2, f3⟩ := f hs'
    rw [e1, e2, e3, f1, f2, f3]
    exact h.apart j k r' s' hne h1 h2
  · intro r hr s hs' x hx
    have hs2 : ∃ s' ∈ L.mem, foot s.b s.a = foot s'.b s'.a := by
      rcases mem_set_cases hs' with rfl | hs'
      · exact ⟨q, hqm, rfl⟩
      · exact ⟨s, hs', rfl⟩
    obtain ⟨s', hs2, e⟩ := hs2
    rw [e]
    rcases mem_set_cases hr with rfl | hr
    · rcases hnew x hx with h1 | h1
      · exact h.rows q hqm s' hs2 x h1
      · intro hc
        obtain ⟨k, hk⟩ := List.getElem?_of_mem hs2
        obtain ⟨p', _, hm', _⟩ := h.pairOf hk
        have := hm'.lt x hc
        omega
    · exact h.rows r hr s' hs2 x hx
  · intro s hs' x hx r hr
    rcases mem_set_cases hr with rfl | hr
    · exact h.sep s hs' x hx q hqm
    · exact h.sep s hs' x hx r hr
  · intro r hr x hx
    rcases mem_set_cases hr with rfl | hr
    · rcases List.mem_append.1 hx with h1 | h1
      · exact (own_blk o1 x h1).2
      · exact (own_blk o2 x h1).2
    · exact Nat.lt_of_lt_of_le (h.lt r hr x hx) hC.size
  · intro x hx
    rcases gall_cases hx with rfl | rfl | hx | ⟨r, hr, hx⟩ | ⟨s, hs', hx⟩
    · exact .inl (gall_G _ _)
    · exact .inl (gall_ma _ _)
    · exact .inl (gall_na hx)
    · rcases mem_set_cases hr with rfl | hr
      · rcases hx with hx | rfl | hx
        · exact .inl (gall_foot hqm hx)
        · exact .inl (show q.v ∈ gall G L from gall_v hqm)
        · rcases hnew x hx with h1 | h1
          · exact .inl (gall_r hqm h1)
          · exact .inr h1
      · rcases hx with hx | rfl | hx
        · exact .inl (gall_foot hr hx)
        · exact .inl (gall_v hr)
        · exact .inl (gall_r hr hx)
    · exact .inl (show x ∈ gall G L from gall_s (L := L) hs' hx)
/-- A member is another one. -/
theorem renew (h : GAt w G L g) {i : Nat} {q : ML} {p : Mb × Vt} (hq : L.mem[i]? = some q) (hp : g.ms[i]? = some p) {w1 : World} {b' : Nat} {a' : MA} {m' : Mb} (hb : Below w.heap.size w w1) (hm : MAt w1 b' a' m') (hn : ∀ x ∈ foot b' a', w.heap.size ≤ x) :
    GAt (w1.setCell ⟨L.ma, i * 2, none⟩ (.pointer (some ⟨b', 0, none⟩))) G (L.put i { q with b := b', a := a' }) ⟨g.ms.set i (m', p.2), g.net⟩ ∧ GStep w G L (w1.setCell ⟨L.ma, i * 2, none⟩ (.pointer (some ⟨b', 0, none⟩))) (L.put i { q with b := b', a := a' }) := by
  have hqm := List.mem_of_getElem? hq
  have h1 := h.below hb
  have hC : Chg [L.ma] w1 (w1.setCell ⟨L.ma, i * 2, none⟩ (.pointer (some ⟨b', 0, none⟩))) := (Chg.refl _ _).setCell (.inl (by simp)) _ _
  have hC0 : Chg [L.ma] w (w1.setCell ⟨L.ma, i * 2, none⟩ (.pointer (some ⟨b', 0, none⟩))) := Chg.pre hb hC
  have hmaF : L.ma ∉ foot b' a' := fun hc => by have := hn _ hc; have := blk_lt h.row; omega
  refine ⟨⟨?_, ?_, ?_, ?_, ?_, ?_, ?_, ?_, ?_⟩, ⟨hC0.mono fun x hx => by rw [List.mem_singleton] at hx; subst hx; exact .inl (gall_ma _ _), ?_⟩⟩
  · have := hC.keep h1.blk (by rw [List.mem_singleton]; exact ne_kind h1.blk h1.row (by decide))
    simp only [List.length_set]
    exact this
  · simp only [List.length_set]; exact h.len
  · have := blk_set (i := i * 2) h1.row (.pointer (some ⟨b', 0, none⟩))
    show (w1.setCell ⟨L.ma, i * 2, none⟩ (.pointer (some ⟨b', 0, none⟩))).heap[L.ma]? = some (.cells (ptrV (L.mem.set i { q with b := b', a := a' })).toArray _)
    rw [ptrV_set hq { q with b := b', a := a' } rfl, this]
    congr 2
    exact Array.ext' (by simp)
  · intro j r p' hr hp'
    rcases getElem?_set_cases hr with ⟨rfl, rfl⟩ | ⟨hne, hr⟩
    · rcases getElem?_set_cases hp' with ⟨_, rfl⟩ | ⟨hne, _⟩
      · refine ⟨hm.chg hC fun x hx hc => by rw [List.mem_singleton] at hc; subst hc; exact hmaF hx, ?_⟩
        exact (h1.mem _ q p hq hp).2.chgRow h1.row (by decide) (by decide) (by decide) hC
      · exact (hne rfl).elim
    · rcases getElem?_set_cases hp' with ⟨e, _⟩ | ⟨_, hp'⟩
      · exact (hne e).elim
      · obtain ⟨h2, h3⟩ := h1.mem j r p' hr hp'
        have hrm := List.mem_of_getElem? hr
        exact ⟨h2.chg hC fun x hx hc => by rw [List.mem_singleton] at hc; subst hc; exact h1.notMa hrm hx, h3.chgRow h1.row (by decide) (by decide) (by decide) hC⟩
  · refine h1.net.chg hC (fun y hy => ?_) fun s hs' y hy => ?_
    · rw [List.mem_singleton]
      obtain ⟨cs, hcs⟩ := own_kind h1.net.own hy
      exact ne_kind hcs h1.row (by decide)
    · rw [List.mem_singleton]
      obtain ⟨cs, hcs⟩ := h1.slBlk hs' hy
      exact ne_kind hcs h1.row (by decide)
  · intro j k r s hne hr hs'
    rcases getElem?_set_cases hr with ⟨e1, rfl⟩ | ⟨n1, hr⟩ <;> rcases getElem?_set_cases hs' with ⟨e2, rfl⟩ | ⟨n2, hs'⟩
    · exact (hne (e1.symm.trans e2)).elim
    · obtain ⟨q1, q2⟩ := h.apart i k q s n2 hq hs'
      refine ⟨fun x hx hc => ?_, q2⟩
      have := hn x hx
      obtain ⟨p', _, hm', _⟩ := h.pairOf hs'
      have := hm'.lt x hc
      omega
    · obtain ⟨q1, q2⟩ := h.apart j i r q (fun e => n1 e.symm) hr hq
      refine ⟨fun x hx hc => ?_, q2⟩
      have := hn x hc
      obtain ⟨p', _, hm', _⟩ := h.pairOf hr
      have := hm'.lt x hx
      omega
    · exact h.apart j k r s hne hr hs'
  · intro r hr s hs' x hx
    have hr' : ∃ r' ∈ L.mem, x ∈ r'.r := by
      rcases mem_set_cases hr with rfl | hr
      · exact ⟨q, hqm, hx⟩
      · exact ⟨r, hr, hx⟩
    obtain ⟨r', hr', hx⟩ := hr'
    rcases mem_set_cases hs' with rfl | hs'
    · intro hc
      have := hn x hc
      have := h.lt r' hr' x hx
      omega
    · exact h.rows r' hr' s hs' x hx
  · intro s hs' x hx r hr
    rcases mem_set_cases hr with rfl | hr
    · intro hc
      have := hn x hc
      obtain ⟨cs, hcs⟩ := h.slBlk hs' hx
      have := blk_lt hcs
      omega
    · exact h.sep s hs' x hx r hr
  · intro r hr x hx
    rcases mem_set_cases hr with rfl | hr
    · exact Nat.lt_of_lt_of_le (h.lt q hqm x hx) hC0.size
    · exact Nat.lt_of_lt_of_le (h.lt r hr x hx) hC0.size
  · intro x hx
    rcases gall_cases hx with rfl | rfl | hx | ⟨r, hr, hx⟩ | ⟨s, hs', hx⟩
    · exact .inl (gall_G _ _)
    · exact .inl (gall_ma _ _)
    · exact .inl (gall_na hx)
    · rcases mem_set_cases hr with rfl | hr
      · rcases hx with hx | rfl | hx
        · exact .inr (hn x hx)
        · exact .inl (show q.v ∈ gall G L from gall_v hqm)
        · exact .inl (gall_r hqm hx)
      · rcases hx with hx | rfl | hx
        · exact .inl (gall_foot hr hx)
        · exact .inl (gall_v hr)
        · exact .inl (gall_r hr hx)
    · exact .inl (show x ∈ gall G L from gall_s (L := L) hs' hx)
/-- What is on its way is another. -/
theorem netTo (h : GAt w G L g) {w1 : World} {na : Option Addr} {nc : Nat} {l : List Ms} {sl : List (Option Addr × Nat)} (hc : Chg (blkOf L.na) w w1) (hms : MsAt w1 0 na nc l sl) (hsep : ∀ s ∈ sl, ∀ x ∈ blkOf s.1, ∀ r ∈ L.mem, x ∉ foot r.b r.a)
    {B0 : Nat} (hna : ∀ x ∈ blkOf na, x ∈ blkOf L.na ∨ B0 ≤ x) (hsl : ∀ s ∈ sl, ∀ x ∈ blkOf s.1, x ∈ gall G L ∨ B0 ≤ x) :
    GAt (w1.setCell ⟨G, 1, none⟩ (.slice na l.length nc)) G { L with na := na, nc := nc, sl := sl } ⟨g.ms, l⟩ ∧ Chg (gall G L) w (w1.setCell ⟨G, 1, none⟩ (.slice na l.length nc)) ∧ ∀ x ∈ gall G { L with na := na, nc := nc, sl := sl }, x ∈ gall G L ∨ B0 ≤ x := by
  have hnaK : ∀ {x : Nat}, x ∈ blkOf L.na → ∃ cs, w.heap[x]? = some (.cells cs 70) := fun hx => own_kind h.net.own hx
  have hG : G ∉ blkOf L.na := fun hx => by
    obtain ⟨cs, hcs⟩ := hnaK hx
    exact ne_kind hcs h.blk (by decide) rfl
  have hblk := hc.keep h.blk hG
  have hC : Chg [G] w1 (w1.setCell ⟨G, 1, none⟩ (.slice na l.length nc)) := (Chg.refl _ _).setCell (.inl (by simp)) _ _
  have hC0 : Chg (G :: blkOf L.na) w (w1.setCell ⟨G, 1, none⟩ (.slice na l.length nc)) := (hc.mono fun x hx => .inl (List.mem_cons_of_mem _ hx)).setCell (.inl (by simp)) _ _
  have hfoot : ∀ r ∈ L.mem, ∀ x ∈ foot r.b r.a, x ∉ G :: blkOf L.na := fun r hr x hx hc => by
    rcases List.mem_cons.1 hc with rfl | hc
    · exact h.notG hr hx
    · exact h.notNa hr hc hx
  have hne : ∀ {x : Nat} {cs : Array Value} {t : TypeId}, w.heap[x]? = some (.cells cs t) → t ≠ 57 → t ≠ 70 → x ∉ G :: blkOf L.na := fun hx h1 h2 hc => by
    rcases List.mem_cons.1 hc with rfl | hc
    · exact ne_kind hx h.blk h1 rfl
    · obtain ⟨cs, hcs⟩ := hnaK hc
      exact ne_kind hx hcs h2 rfl
  refine ⟨⟨?_, h.len, hC0.keep h.row (hne h.row (by decide) (by decide)), ?_, ?_, h.apart, h.rows, hsep, fun r hr x hx => Nat.lt_of_lt_of_le (h.lt r hr x hx) hC0.size⟩, hC0.mono fun x hx => ?_, ?_⟩
  · have := blk_set (i := 1) hblk (.slice na l.length nc)
    exact this
  · intro j r p' hr hp'
    obtain ⟨h2, h3⟩ := h.mem j r p' hr hp'
    have hrm := List.mem_of_getElem? hr
    refine ⟨h2.chg hC0 (hfoot r hrm), ?_⟩
    obtain ⟨D, cd, A, c, gV, o1, o2, oP⟩ := h3
    refine ⟨D, cd, A, c, hC0.keep gV (hne gV (by decide) (by decide)), own_chg o1 hC0 fun y hy => ?_, own_chg o2 hC0 fun y hy => ?_, oP⟩
    · obtain ⟨cs, hcs⟩ := own_kind o1 hy
      exact hne hcs (by decide) (by decide)
    · obtain ⟨cs, hcs⟩ := own_kind o2 hy
      exact hne hcs (by decide) (by decide)
  · refine hms.chg hC (fun y hy => ?_) fun s hs' y hy => ?_
    · rw [List.mem_singleton]
      obtain ⟨cs, hcs⟩ := own_kind hms.own hy
      exact ne_kind hcs hblk (by decide)
    · rw [List.mem_singleton]
      obtain ⟨k, hk⟩ := List.getElem?_of_mem hs'
      obtain ⟨hk1, hk2⟩ := List.getElem?_eq_some_iff.1 hk
      have := hms.ents k (by rw [← hms.len]; exact hk1)
      rw [List.getD_eq_getElem?_getD, hk] at this
      obtain ⟨cs, hcs⟩ := own_kind this hy
      exact ne_kind hcs hblk (by decide)
  · rcases List.mem_cons.1 hx with rfl | hx
    · exact .inl (gall_G _ _)
    · exact .inl (gall_na hx)
  · intro x hx
    rcases gall_cases hx with rfl | rfl | hx | ⟨r, hr, hx⟩ | ⟨s, hs', hx⟩
    · exact .inl (gall_G _ _)
    · exact .inl (gall_ma _ _)
    · rcases hna x hx with h1 | h1
      · exact .inl (gall_na h1)
      · exact .inr h1
    · rcases hx with hx | rfl | hx
      · exact .inl (show x ∈ gall G L from gall_foot (L := L) hr hx)
      · exact .inl (show r.v ∈ gall G L from gall_v (L := L) hr)
      · exact .inl (show x ∈ gall G L from gall_r (L := L) hr hx)
    · exact hsl s hs' x hx
end GAt
end Go.Proofs.YthjdbmfobmnnlaaGreat
