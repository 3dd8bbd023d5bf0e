/-
  A member acts.
-/
import Derived.Test.YthjdbmfobmnnlaaGreatGrA
import Derived.Test.YthjdbmfobmnnlaaGreatGrDel
import Derived.Test.YthjdbmfobmnnlaaGreatBn
namespace Go.Proofs.YthjdbmfobmnnlaaGreat
open Go.RowKit
set_option linter.unusedVariables false
/-- A group has done something; what it holds then is its own, or not older than B0. -/
def RetB (B0 : Nat) (g' : Gr) (G : Nat) (L : GL) (v : Value) (w : World) (e : Ending) (w' : World) : Prop := ∃ L', e = .returned v ∧ GAt w' G L' g' ∧ Chg (gall G L) w w' ∧ ∀ x ∈ gall G L', x ∈ gall G L ∨ B0 ≤ x
theorem msV_append {ms ns : List Ms} {sl tl : List (Option Addr × Nat)} (h : sl.length = ms.length) : msV (ms ++ ns) (sl ++ tl) = msV ms sl ++ msV ns tl := by
  induction ms generalizing sl with
  | nil =>
    obtain rfl := List.eq_nil_of_length_eq_zero h
    simp [msV]
  | cons m ms ih =>
    cases sl with
    | nil => simp at h
    | cons t sl =>
      simp only [List.length_cons, Nat.add_right_cancel_iff] at h
      simp only [List.cons_append, msV, List.headD_cons, List.tail_cons]
      rw [ih h, List.append_assoc]
/-- Messages behind messages. -/
theorem MsAt.join {w : World} {A A' A2 : Option Addr} {c c' c2 : Nat} {ms ns : List Ms} {sl tl : List (Option Addr × Nat)} (h : MsAt w 0 A c ms sl) (k : MsAt w 0 A' c' ns tl) {w2 : World}
    (hown : w2.ownsRow 0 70 9 (.slice A2 (ms ++ ns).length c2) (ms ++ ns).length (msV ms sl ++ msV ns tl)) (hc : Chg (blkOf A) w w2) : MsAt w2 0 A2 c2 (ms ++ ns) (sl ++ tl) := by
  have hK : ∀ {B : Option Addr} {n cap : Nat} {xs : List Value}, w.ownsRow 0 82 7 (.slice B n cap) n xs → w2.ownsRow 0 82 7 (.slice B n cap) n xs := fun ho => own_chg ho hc fun y hy hA => by
    obtain ⟨cs, h1⟩ := own_kind ho hy
    obtain ⟨ds, h2⟩ := own_kind h.own hA
    exact ne_kind h1 h2 (by decide) rfl
  refine ⟨by rw [msV_append h.len]; exact hown, by simp [h.len, k.len], fun j hj => ?_⟩
  by_cases hlt : j < ms.length
  · have e1 : (ms ++ ns)[j] = ms[j] := List.getElem_append_left hlt
    have e2 : (sl ++ tl).getD j (none, 0) = sl.getD j (none, 0) := by rw [List.getD_eq_getElem?_getD, List.getD_eq_getElem?_getD, List.getElem?_append_left (by rw [h.len]; exact hlt)]
    rw [e1, e2]
    exact hK (h.ents j hlt)
  · have hj2 : j - ms.length < ns.length := by rw [List.length_append] at hj; omega
    have e1 : (ms ++ ns)[j] = ns[j - ms.length] := List.getElem_append_right (by omega)
    have e2 : (sl ++ tl).getD j (none, 0) = tl.getD (j - ms.length) (none, 0) := by rw [List.getD_eq_getElem?_getD, List.getD_eq_getElem?_getD, List.getElem?_append_right (by rw [h.len]; omega), h.len]
    rw [e1, e2]
    exact hK (k.ents _ hj2)
theorem gownBlock_mem {A : Option Addr} {n c : Nat} {b : Nat} (h : (Value.slice A n c).ownBlock = some b) : b ∈ blkOf A := by
  cases A with
  | none => cases h
  | some a => simp [Value.ownBlock] at h; simp [blkOf, h]
theorem gownBlock_of {A : Option Addr} {n c : Nat} {b : Nat} (h : b ∈ blkOf A) : (Value.slice A n c).ownBlock = some b := by
  cases A with
  | none => cases h
  | some a => simp [blkOf] at h; simp [Value.ownBlock, h]
/-- What a member has said is let go. -/
def Gr.actsM (g : Gr) (i : Nat) (p : Mb × Vt) (said : List Ms) : Gr :=
  if saves p.1 p.2 = 0 then ⟨g.ms.set i (p.1, syncV (saved p.1 p.2)), g.net ++ said⟩ else ⟨g.ms.set i (fresh ((i : Int) + 1) g.ms.length p.2, p.2), g.net⟩
theorem GStep.far {w w' : World} {G : Nat} {L L' : GL} (h : GStep w G L w' L') {y : Nat} (hy : y < w.heap.size) (hn : y ∉ gall G L) : y ∉ gall G L' := fun hc => by
  rcases h.sub y hc with h1 | h1
  · exact hn h1
  · omega
theorem GAt.slots {w : World} {G : Nat} {L : GL} {g : Gr} (h : GAt w G L g) {i : Nat} (hi : i < g.ms.length) : ∃ q, L.mem[i]? = some q := ⟨_, List.getElem?_eq_getElem (by rw [h.len]; exact hi)⟩
set_option maxRecDepth 100000 in
set_option maxHeartbeats 6400000 in
theorem acts_any {w : World} {G : Nat} {L : GL} {g : Gr} (h : GAt w G L g) (i : Nat) {p : Mb × Vt} (hp : g.ms[i]? = some p) (hn : g.ms.length ≤ 16) (hm : MbOk p.1) (hwf : ∀ e ∈ p.1.log, EnWf e) (hx : VtOk p.2) (hl : p.2.1.length ≤ 65536)
    (hok : newOk ((i : Int) + 1) g.ms.length p.2.2.2.1 p.2.2.2.2.1 0 0 p.2.2.2.2.2 = true) {said : List Ms} {A : Option Addr} {c : Nat} {sl : List (Option Addr × Nat)} (hms : MsAt w 0 A c said sl) (hsA : ∀ y ∈ blkOf A, y ∉ gall G L) (hsS : ∀ s ∈ sl, ∀ y ∈ blkOf s.1, y ∉ gall G L)
    {B0 : Nat} (hB0 : B0 ≤ w.heap.size) (hsB : ∀ s ∈ sl, ∀ y ∈ blkOf s.1, B0 ≤ y) (hsl : said.length ≤ 100) (hnet : g.net.length ≤ 1000000) :
    Calls Tryz.prog 26 #[.pointer (some ⟨G, 0, none⟩), .int .i64 ((i : Int) + 1), .slice A said.length c] w (RetB B0 (g.actsM i p said) G L (.tuple #[]) w) := by
  have hi : i < g.ms.length := (List.getElem?_eq_some_iff.1 hp).1
  obtain ⟨q, hq⟩ := h.slots hi
  have HSV := Lib.hid (gsave_any h i hq hp hn hm hwf hx hl)
  have hlA : ∀ y ∈ blkOf A, y < w.heap.size := fun y hy => by obtain ⟨cs, hcs⟩ := own_kind hms.own hy; exact blk_lt hcs
  have hlS : ∀ s ∈ sl, ∀ y ∈ blkOf s.1, y < w.heap.size := fun s hs y hy => by
    obtain ⟨k, hk⟩ := List.getElem?_of_mem hs
    obtain ⟨hk1, hk2⟩ := List.getElem?_eq_some_iff.1 hk
    have := hms.ents k (by rw [← hms.len]; exact hk1)
    rw [List.getD_eq_getElem?_getD, hk] at this
    obtain ⟨cs, hcs⟩ := own_kind this hy
    exact blk_lt hcs
  by_cases hs : saves p.1 p.2 = 0
  rotate_left 1
  · have hs1 : (saves p.1 p.2 != 0) = true := by simpa using hs
    have hv : saved p.1 p.2 = p.2 := saveV_no hs
    have HE : Hid (g.actsM i p said = ⟨g.ms.set i (fresh ((i : Int) + 1) g.ms.length p.2, p.2), g.net⟩) := if_neg hs
    rw [hv] at HSV
    have HAN : Hid (∀ W L1, GAt W G L1 ⟨g.ms.set i (p.1, p.2), g.net⟩ → Calls Tryz.prog 24 #[.pointer (some ⟨G, 0, none⟩), .int .i64 ((i : Int) + 1)] W (RetG ⟨(g.ms.set i (p.1, p.2)).set i (fresh ((i : Int) + 1) g.ms.length p.2, p.2), g.net⟩ G L1 (.tuple #[]) W)) := fun W L1 h1 => by
      have hi1 : i < (g.ms.set i (p.1, p.2)).length := by rw [List.length_set]; exact hi
      obtain ⟨q1, hq1⟩ := h1.slots hi1
      have := anew_any h1 i (p := (p.1, p.2)) hq1 (by simp [hi]) (by simp only [List.length_set]; exact hn) hx (by simp only [List.length_set]; exact hok)
      simpa only [List.length_set] using this
    generalize saves p.1 p.2 = se at *
    clear h hm hwf hx hl hok hms hs
    go_enter Tryz.func26, Tryz.ntmps26
    go_wp2_with (first
      | (go_at_call 33; refine HSV.out.mono ?_; rintro e w1 ⟨L1, rfl, h1, S1⟩; have HA1 := Lib.hid (HAN.out _ _ h1))
      | (go_at_call 24; refine HA1.out.mono ?_; rintro e w2 ⟨L2, rfl, h2, S2⟩))
    refine bodyPost_end (results_none rfl _ _ _) rfl ?_
    have S3 := S1.trans S2
    rw [HE.out]
    rw [List.set_set] at h2
    exact ⟨L2, rfl, h2, S3.chg, fun x hx => (S3.sub x hx).imp id fun q => Nat.le_trans hB0 q⟩
  · have HE : Hid (g.actsM i p said = ⟨g.ms.set i (p.1, syncV (saved p.1 p.2)), g.net ++ said⟩) := if_pos hs
    rw [hs] at HSV
    have hp1 : (g.ms.set i (p.1, saved p.1 p.2))[i]? = some (p.1, saved p.1 p.2) := by simp [hi]
    have hi1 : i < (g.ms.set i (p.1, saved p.1 p.2)).length := by rw [List.length_set]; exact hi
    have hn1 : (g.ms.set i (p.1, saved p.1 p.2)).length ≤ 16 := by rw [List.length_set]; exact hn
    have hii : (g.ms.set i (p.1, saved p.1 p.2)).set i (p.1, syncV (saved p.1 p.2)) = g.ms.set i (p.1, syncV (saved p.1 p.2)) := List.set_set ..
    generalize saved p.1 p.2 = sv at *
    generalize hg1 : g.ms.set i (p.1, sv) = ms1 at *
    have HSY : Hid (∀ W L1 q1, GAt W G L1 ⟨ms1, g.net⟩ → L1.mem[i]? = some q1 → Calls Tryz.prog 61 #[.pointer (some ⟨q1.v, 0, none⟩)] W fun e w' => e = .returned (.tuple #[]) ∧ VtAt w' q1.v (q1.v + 1) (fun y => y ∈ q1.r) (syncV sv) ∧ Only q1.v W w') := fun W L1 q1 h1 hq1 => sync_any q1.v (q1.v + 1) sv W (h1.mem i q1 _ hq1 hp1).2 (by omega)
    have HMS := Lib.hid hms
    clear h hm hwf hx hl hok hms hs
    go_enter Tryz.func26, Tryz.ntmps26
    go_upto_region 3 with (first
      | (go_at_call 33; refine HSV.out.mono ?_; rintro e w1 ⟨L1, rfl, h1, S1⟩; have HO1 := Lib.hid (of_any h1 i hi1 hn1); obtain ⟨q1, hq1⟩ := h1.slots hi1; obtain ⟨c0, c1, f0, f1, hlt⟩ := h1.ptrs hq1; have HY1 := Lib.hid (HSY.out _ _ _ h1 hq1))
      | (go_at_call 27; refine HO1.out.mono ?_; rintro e wx ⟨rfl, hwx⟩; subst hwx)
      | (go_at_call 61; refine HY1.out.mono ?_; rintro e w2 ⟨rfl, hv2, hO2⟩))
    obtain ⟨L2, h2, S2, _⟩ := h1.disk hq1 hp1 hO2 (by obtain ⟨D, cd, A', c', g1, o1, o2, oP⟩ := hv2; exact ⟨D, cd, A', c', g1, o1, o2, fun y hy => .inl (oP y hy)⟩)
    have S3 := S1.trans S2
    have M2 := HMS.out.chg S3.chg hsA hsS
    obtain ⟨g0, g1, gf0, gf1, glt⟩ := h2.cells
    have hnlen : (g.net.length + said.length) ≤ 1000100 := by omega
    have hGne : ∀ b, (Value.slice L2.na g.net.length L2.nc).ownBlock = some b → b ≠ G := fun b hb e => by
      subst e
      have hb2 : b ∈ blkOf L2.na := by
        cases hna : L2.na with
        | none => rw [hna] at hb; cases hb
        | some a => rw [hna] at hb; simp [Value.ownBlock] at hb; simp [blkOf, hb]
      obtain ⟨cs, hcs⟩ := own_kind h2.net.own hb2
      exact ne_kind hcs h2.blk (by decide) rfl
    have hA0 : A = none → said.length = 0 := fun e => by
      rcases M2.own.2 with ⟨_, h0⟩ | ⟨b, cap, cur, hv, _⟩
      · exact h0
      · rw [e] at hv; cases hv
    have HM2 := Lib.hid M2
    have HH2 := Lib.hid h2
    have hr2 := RowAt.of_own M2.own
    have ho2 := h2.net.own
    clear M2 h2 c0 c1 f0 f1 hlt
    go_wp2_with (at_builtin; refine wpList_append_row rfl (.tmp 24) (.tmp 25) rfl elemM 0 (.slice L2.na g.net.length L2.nc) g.net.length (msV g.net L2.sl) (by rfl) ho2 A said.length c (msV said sl) (by rfl) (msV_length _ _) hr2 (msV_one _ _) (by unfold maxLen; omega) (by omega) (Nat.zero_le _) hA0 ?_; intro a3 c3 w3 own3 hg3 hat3; have G3 := blk_grown hg3 HH2.out.blk (fun e => hGne _ e rfl); obtain ⟨k0, k1, kf0, kf1, klt⟩ := box2 G3)
    refine bodyPost_end (results_none rfl _ _ _) rfl ?_
    rw [HE.out]
    have hC3 : Chg (blkOf L2.na) w2 w3 := (Chg.refl _ _).grown hg3 fun b hb => .inl (gownBlock_mem hb)
    have hJ := HH2.out.net.join HM2.out (A2 := a3) (c2 := c3) (by rw [List.length_append]; exact own3) hC3
    have hz3 := S3.chg.size
    obtain ⟨hG4, hC4, hS4⟩ := HH2.out.netTo (B0 := B0) hC3 hJ (fun s hs y hy r hr hc => by
      rcases List.mem_append.1 hs with h1 | h1
      · exact HH2.out.sep s h1 y hy r hr hc
      · exact S3.far (hlS s h1 y hy) (hsS s h1 y hy) (gall_foot hr hc)) (fun x hx => by
      rcases hat3 with h1 | h1
      · exact .inl (gownBlock_mem (h1.symm.trans (gownBlock_of hx)))
      · have := (gownBlock_of (n := g.net.length + said.length) (c := c3) hx).symm.trans h1
        injection this with this
        exact .inr (by omega)) (fun s hs y hy => by
      rcases List.mem_append.1 hs with h1 | h1
      · exact .inl (gall_s h1 hy)
      · exact .inr (hsB s h1 y hy))
    rw [List.length_append] at hG4 hC4
    rw [hii] at hG4
    exact ⟨_, rfl, hG4, S3.chg.trans hC4 S3.sub, fun x hx => by
      rcases hS4 x hx with h1 | h1
      · exact (S3.sub x h1).imp id fun q => Nat.le_trans hB0 q
      · exact .inr h1⟩
end Go.Proofs.YthjdbmfobmnnlaaGreat
