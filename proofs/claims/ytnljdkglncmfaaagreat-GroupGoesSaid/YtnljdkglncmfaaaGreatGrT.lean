/-
  Groups that run, with what is known of them; who led.
-/
import Derived.Test.YtnljdkglncmfaaaGreatGrS
import Derived.Test.YtnljdkglncmfaaaGreatSf
import Derived.Test.YtnljdkglncmfaaaGreatBa
namespace Go.Proofs.YtnljdkglncmfaaaGreat
open Go.RowKit
set_option linter.unusedVariables false
/-- A group that runs, and what is known of it. -/
structure Sure (n k : Nat) (g : Gr) (h : Gh) : Prop where
  ran : Ran n k g
  inv : Inv g h
theorem Sure.next {n k : Nat} {g : Gr} {h : Gh} (s : Sure n k g h) (m : It) : ∃ h', Ext h h' ∧ Sure n (k + 1) (g.item m) h' := by
  obtain ⟨h', e, i⟩ := s.inv.does s.ran.ok m.1 m.2.1 m.2.2.1 m.2.2.2
  exact ⟨h', e, s.ran.next m, i⟩
theorem Sure.new {n : Nat} (h1 : 1 ≤ n) (h16 : n ≤ 16) : Sure n 0 (newGr n) gh0 := ⟨.new h1 h16, newGr_inv n⟩
theorem at_some {g : Gr} {m : Nat} {p : Mb × Vt} (hp : g.ms[m]? = some p) : g.at_ ((m : Int) + 1) = p := by
  have hlt := (List.getElem?_eq_some_iff.1 hp).1
  have := at_get (g := g) (i := (m : Int) + 1) (by omega) (by omega)
  rw [show ((m : Int) + 1 - 1).toNat = m by omega, hp] at this
  injection this with this
  exact this.symm
/-- Terms, and who led in them. -/
structure Led (h : Gh) (ts us : List Int) : Prop where
  len : us.length = ts.length
  led : ∀ (m : Nat) (t u : Int), ts[m]? = some t → us[m]? = some u → h.ld t = u ∧ u ≠ 0
theorem Led.ext {h h' : Gh} {ts us : List Int} (l : Led h ts us) (e : Ext h h') : Led h' ts us := ⟨l.len, fun m t u h1 h2 => by
  obtain ⟨h3, h4⟩ := l.led m t u h1 h2
  exact ⟨by rw [e.ld t (by rw [h3]; exact h4)]; exact h3, h4⟩⟩
theorem Led.push {h : Gh} {ts us : List Int} (l : Led h ts us) {t u : Int} (h1 : h.ld t = u) (h2 : u ≠ 0) : Led h (ts ++ [t]) (us ++ [u]) := by
  refine ⟨by simp [l.len], fun m x y hx hy => ?_⟩
  by_cases q : m < ts.length
  · rw [List.getElem?_append_left q] at hx
    rw [List.getElem?_append_left (by have := l.len; omega)] at hy
    exact l.led m x y hx hy
  · have hm : m = ts.length := by
      have := (List.getElem?_eq_some_iff.1 hx).1
      simp at this
      omega
    rw [List.getElem?_append_right (by omega), hm, Nat.sub_self] at hx
    rw [List.getElem?_append_right (by have := l.len; omega), hm, l.len, Nat.sub_self] at hy
    simp at hx hy
    subst hx hy
    exact ⟨h1, h2⟩
/-- A group, and two slices of numbers that lie apart from it and from each other. -/
structure Recs (B : Nat) (w : World) (G : Nat) (L : GL) (g : Gr) (ts us : List Int) (a : Option Addr) (c : Nat) (a' : Option Addr) (c' : Nat) : Prop where
  g : GAt w G L g
  gb : ∀ x ∈ gall G L, B ≤ x
  t : w.ownsRow B 3 1 (.slice a ts.length c) ts.length (ts.map intV)
  u : w.ownsRow B 3 1 (.slice a' us.length c') us.length (us.map intV)
  tu : ∀ x ∈ blkOf a, x ∉ blkOf a'
  tg : ∀ x ∈ gall G L, x ∉ blkOf a
  ug : ∀ x ∈ gall G L, x ∉ blkOf a'
namespace Recs
variable {B : Nat} {w w' : World} {G : Nat} {L L' : GL} {g g' : Gr} {ts us : List Int} {a a' : Option Addr} {c c' : Nat}
theorem below (r : Recs B w G L g ts us a c a' c') (hb : Below w.heap.size w w') : Recs B w' G L g ts us a c a' c' := ⟨r.g.below hb, r.gb, own_below r.t hb, own_below r.u hb, r.tu, r.tg, r.ug⟩
theorem step (r : Recs B w G L g ts us a c a' c') (hB : B ≤ w.heap.size) (hg : GAt w' G L' g') (s : GStep w G L w' L') : Recs B w' G L' g' ts us a c a' c' := by
  refine ⟨hg, fun x hx => ?_, own_chg r.t s.chg fun x hx hc => r.tg x hc hx, own_chg r.u s.chg fun x hx hc => r.ug x hc hx, r.tu, fun x hx hc => ?_, fun x hx hc => ?_⟩
  · rcases s.sub x hx with q | q
    · exact r.gb x q
    · omega
  · rcases s.sub x hx with q | q
    · exact r.tg x q hc
    · have := (own_blk r.t x hc).2; omega
  · rcases s.sub x hx with q | q
    · exact r.ug x q hc
    · have := (own_blk r.u x hc).2; omega
theorem ownBlk {A : Option Addr} {n c : Nat} {b : Nat} (h : (Value.slice A n c).ownBlock = some b) : b ∈ blkOf A := by
  cases A with
  | none => cases h
  | some p => injection h with h; subst h; simp [blkOf]
theorem blkOwn {A : Option Addr} {n c : Nat} {b : Nat} (h : b ∈ blkOf A) : (Value.slice A n c).ownBlock = some b := by
  cases A with
  | none => cases h
  | some p => simp only [blkOf, List.mem_singleton] at h; subst h; rfl
theorem grownChg {A : Option Addr} {n c : Nat} (hg : w.grownBy w' (Value.slice A n c).ownBlock) : Chg (blkOf A) w w' := (Chg.refl _ w).grown hg fun b hb => .inl (ownBlk hb)
theorem grownAt {A A2 : Option Addr} {n c n2 c2 : Nat} (hat : (Value.slice A2 n2 c2).ownBlock = (Value.slice A n c).ownBlock ∨ (Value.slice A2 n2 c2).ownBlock = some w.heap.size) : ∀ x ∈ blkOf A2, x ∈ blkOf A ∨ x = w.heap.size := fun x hx => by
  have h1 := blkOwn (n := n2) (c := c2) hx
  rcases hat with q | q
  · rw [q] at h1; exact .inl (ownBlk h1)
  · rw [q] at h1; injection h1 with h1; exact .inr h1.symm
theorem pushT (r : Recs B w G L g ts us a c a' c') {a2 : Option Addr} {c2 : Nat} {w2 : World} {t : Int} (hown : w2.ownsRow B 3 1 (.slice a2 (ts.length + 1) c2) (ts.length + 1) (ts.map intV ++ [.int .i64 t])) (hg : w.grownBy w2 (Value.slice a ts.length c).ownBlock)
    (hat : (Value.slice a2 (ts.length + 1) c2).ownBlock = (Value.slice a ts.length c).ownBlock ∨ (Value.slice a2 (ts.length + 1) c2).ownBlock = some w.heap.size) : Recs B w2 G L g (ts ++ [t]) us a2 c2 a' c' := by
  have hc := grownChg hg
  have hx := grownAt hat
  have e1 : (ts ++ [t]).length = ts.length + 1 := by simp
  refine ⟨r.g.chgOut hc r.tg, r.gb, by rw [e1, List.map_append]; exact hown, own_chg r.u hc fun x h1 h2 => r.tu x h2 h1, fun x h1 h2 => ?_, fun x h1 h2 => ?_, r.ug⟩
  · rcases hx x h1 with q | q
    · exact r.tu x q h2
    · have := (own_blk r.u x h2).2; omega
  · rcases hx x h2 with q | q
    · exact r.tg x h1 q
    · have := r.g.gltAll x h1; omega
theorem pushU (r : Recs B w G L g ts us a c a' c') {a2 : Option Addr} {c2 : Nat} {w2 : World} {t : Int} (hown : w2.ownsRow B 3 1 (.slice a2 (us.length + 1) c2) (us.length + 1) (us.map intV ++ [.int .i64 t])) (hg : w.grownBy w2 (Value.slice a' us.length c').ownBlock)
    (hat : (Value.slice a2 (us.length + 1) c2).ownBlock = (Value.slice a' us.length c').ownBlock ∨ (Value.slice a2 (us.length + 1) c2).ownBlock = some w.heap.size) : Recs B w2 G L g ts (us ++ [t]) a c a2 c2 := by
  have hc := grownChg hg
  have hx := grownAt hat
  have e1 : (us ++ [t]).length = us.length + 1 := by simp
  refine ⟨r.g.chgOut hc r.ug, r.gb, own_chg r.t hc fun x h1 h2 => r.tu x h1 h2, by rw [e1, List.map_append]; exact hown, fun x h1 h2 => ?_, r.tg, fun x h1 h2 => ?_⟩
  · rcases hx x h2 with q | q
    · exact r.tu x h1 q
    · have := (own_blk r.t x h1).2; omega
  · rcases hx x h2 with q | q
    · exact r.ug x h1 q
    · have := r.g.gltAll x h1; omega
theorem readT (r : Recs B w G L g ts us a c a' c') {k : Nat} (hk : k < ts.length) : ∃ b off, a = some ⟨b, off, none⟩ ∧ b < w.heap.size ∧ w.cell? ⟨b, off + k, none⟩ = some (.int .i64 (ts[k]'hk)) := CellsI.at (RowAt.of_own r.t) hk
theorem readU (r : Recs B w G L g ts us a c a' c') {k : Nat} (hk : k < us.length) : ∃ b off, a' = some ⟨b, off, none⟩ ∧ b < w.heap.size ∧ w.cell? ⟨b, off + k, none⟩ = some (.int .i64 (us[k]'hk)) := CellsI.at (RowAt.of_own r.u) hk
end Recs
end Go.Proofs.YtnljdkglncmfaaaGreat
