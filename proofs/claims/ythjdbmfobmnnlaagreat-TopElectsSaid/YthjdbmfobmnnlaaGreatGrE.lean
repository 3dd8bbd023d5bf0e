/-
  A command.
-/
import Derived.Test.YthjdbmfobmnnlaaGreatGrD
import Derived.Test.YthjdbmfobmnnlaaGreatBh
namespace Go.Proofs.YthjdbmfobmnnlaaGreat
open Go.RowKit
set_option linter.unusedVariables false
/-- A group has done something and says how it went. -/
def RetE (r : Gr × Int) (G : Nat) (L : GL) (w : World) (e : Ending) (w2 : World) : Prop := e = .returned (.int .i64 r.2) ∧ ∃ L2, GAt w2 G L2 r.1 ∧ GStep w G L w2 L2
set_option maxRecDepth 100000 in
set_option maxHeartbeats 6400000 in
theorem gpropose_any {w : World} {G : Nat} {L : GL} {g : Gr} (hgo : GrOk g) (h : GAt w G L g) (i : Nat) {q : ML} {p : Mb × Vt} (hq : L.mem[i]? = some q) (hp : g.ms[i]? = some p) (a b : Int) (hnet : g.net.length ≤ 1000000) :
    Calls Tryz.prog 30 #[.pointer (some ⟨G, 0, none⟩), .int .i64 ((i : Int) + 1), .int .i64 a, .int .i64 b] w (RetE (g.propose ((i : Int) + 1) a b) G L w) := by
  have HG := Lib.hid h
  by_cases hbad : min a b < 0 ∨ 1073741824 < max a b
  · have HR : Hid (g.propose ((i : Int) + 1) a b = (g, 1)) := if_pos hbad
    generalize g.propose ((i : Int) + 1) a b = r at *
    by_cases h1 : min a b < 0
    · clear h hbad
      go_enter Tryz.func30, Tryz.ntmps30
      go_wp2
      go_ret
      rw [HR.out]
      exact ⟨rfl, L, HG.out, GStep.refl _ _ _⟩
    · have h2 : 1073741824 < max a b := by rcases hbad with h3 | h3; exact (h1 h3).elim; exact h3
      clear h hbad
      go_enter Tryz.func30, Tryz.ntmps30
      go_wp2
      go_ret
      rw [HR.out]
      exact ⟨rfl, L, HG.out, GStep.refl _ _ _⟩
  · have h1 : ¬ min a b < 0 := fun h3 => hbad (.inl h3)
    have h2 : ¬ 1073741824 < max a b := fun h3 => hbad (.inr h3)
    have hi : i < g.ms.length := (List.getElem?_eq_some_iff.1 hp).1
    have hpo := hgo.pair i p hp
    have HOF := Lib.hid (of_any h i hi hgo.n16)
    obtain ⟨c0, c1, f0, f1, hlt⟩ := h.ptrs hq
    obtain ⟨hM, _⟩ := h.mem i q p hq hp
    have HPR := Lib.hid (propose_any hM hpo.mb (Gr.cmd a b))
    have HIN := Lib.hid ((hpo.inGr.propose (a := a) (b := b) (by omega) (by omega)).1)
    have HLE := Lib.hid (propose_le hpo.mb (Gr.cmd a b))
    have HR : Hid (g.propose ((i : Int) + 1) a b = if (p.1.propose (Gr.cmd a b)).2.2.2 = 0 then (g.acts ((i : Int) + 1) (p.1.propose (Gr.cmd a b)).1 (p.1.propose (Gr.cmd a b)).2.2.1, 0) else (g, (p.1.propose (Gr.cmd a b)).2.2.2)) := by
      rw [Hid]
      unfold Gr.propose
      rw [if_neg hbad, at_idx hp]
    have HKEEP : Hid ((p.1.propose (Gr.cmd a b)).2.2.2 ≠ 0 → (p.1.propose (Gr.cmd a b)).1 = p.1) := by
      rw [Hid]
      unfold Mb.propose
      split
      · intro _; rfl
      · split
        · intro _; rfl
        · intro h3; exact (h3 rfl).elim
    generalize hpr : p.1.propose (Gr.cmd a b) = pr at *
    obtain ⟨m', n', said, er⟩ := pr
    simp only at HPR HIN HLE HR HKEEP
    generalize g.propose ((i : Int) + 1) a b = r at *
    have hsame : Hid (m' = p.1 → (⟨g.ms.set i (m', p.2), g.net⟩ : Gr) = g) := fun e => by
      subst e
      have : g.ms.set i (p.1, p.2) = g.ms := by
        obtain ⟨h5, h6⟩ := List.getElem?_eq_some_iff.1 hp
        rw [show (p.1, p.2) = p from rfl, ← h6, List.set_getElem_self]
      rw [this]
    have HACT : Hid (∀ w' a' B A c sl, MAt w' q.b a' m' → Step w q.b q.a w' a' → w.heap.size ≤ B → (∀ x ∈ foot q.b a', x < B) → MsAt w' B A c said sl → Calls Tryz.prog 26 #[.pointer (some ⟨G, 0, none⟩), .int .i64 ((i : Int) + 1), .slice A said.length c] w' fun e w2 => e = .returned (.tuple #[]) ∧ ∃ L2, GAt w2 G L2 (g.acts ((i : Int) + 1) m' said) ∧ GStep w G L w2 L2) := fun w' a' B A c sl k1 k2 k3 k4 k5 => acts_said hgo HG.out hq hp HIN.out k1 k2 k3 k4 k5 HLE.out hnet
    clear h hM hbad hpr hpo
    by_cases her : er = 0
    · subst her
      rw [if_pos rfl] at HR
      go_enter Tryz.func30, Tryz.ntmps30
      go_wp2_with (first
        | (go_at_call 27; refine HOF.out.mono ?_; rintro e wx ⟨rfl, hwx⟩; subst hwx)
        | (go_at_call 68; refine HPR.out.mono ?_; rintro e w1 ⟨a1, B1, A1, cc1, sl1, rfl, H1, S1, hB1, hF1, hms1⟩; have HA1 := Lib.hid (HACT.out _ _ _ _ _ _ H1 S1 hB1 hF1 hms1))
        | (go_at_call 26; refine HA1.out.mono ?_; rintro e w2 ⟨rfl, L2, h2', S2⟩))
      go_ret
      rw [HR.out]
      exact ⟨rfl, L2, h2', S2⟩
    · rw [if_neg her] at HR
      have hm1 := HKEEP.out her
      have her1 : (er == 0) = false := by simpa using her
      clear her
      go_enter Tryz.func30, Tryz.ntmps30
      go_wp2_with (first
        | (go_at_call 27; refine HOF.out.mono ?_; rintro e wx ⟨rfl, hwx⟩; subst hwx)
        | (go_at_call 68; refine HPR.out.mono ?_; rintro e w1 ⟨a1, B1, A1, cc1, sl1, rfl, H1, S1, hB1, hF1, hms1⟩))
      go_ret
      rw [HR.out]
      obtain ⟨h2', S2⟩ := HG.out.step hq hp H1 S1
      rw [hsame.out hm1] at h2'
      exact ⟨rfl, _, h2', S2⟩
end Go.Proofs.YthjdbmfobmnnlaaGreat
