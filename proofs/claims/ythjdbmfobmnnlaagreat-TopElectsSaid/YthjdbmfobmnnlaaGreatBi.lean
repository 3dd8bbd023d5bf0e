/-
  Bi: several texts in one.
-/
import Derived.Test.YthjdbmfobmnnlaaGreatBh
/-
  A map from kinds to methods.
-/
namespace Go.Proofs.YthjdbmfobmnnlaaGreat
open Go.RowKit
set_option linter.unusedVariables false
open Go.Maps (Keyed)
/-- How a method of the member in block b, as a value, reads: by its number. -/
def FRl (b n : Nat) : List Value → List Value → Option (DataW Unit × List MemPlace)
  | [.pointer (some ⟨b', 0, none⟩)], [] => if b' = b then some (.lit (.int .i64 (n : Nat)), []) else none
  | _, _ => none
def FR (b : Nat) : Value → Option (DataW Unit × List MemPlace)
  | .func (.func n) f c => FRl b n f.toList c.toList
  | .nilFunc => some (.lit (.bool false), [])
  | _ => none
theorem FRl_inv {b n : Nat} {f c : List Value} {z : DataW Unit × List MemPlace} (h : FRl b n f c = some z) : f = [.pointer (some ⟨b, 0, none⟩)] ∧ c = [] ∧ z.1 = .lit (.int .i64 (n : Nat)) := by
  unfold FRl at h
  split at h
  · split at h
    · rename_i e
      subst e
      injection h with h
      subst h
      exact ⟨rfl, rfl, rfl⟩
    · cases h
  · cases h
theorem FR_mk (b n : Nat) : FR b (.func (.func n) #[.pointer (some ⟨b, 0, none⟩)] #[]) = some (.lit (.int .i64 (n : Nat)), []) := by
  show (if b = b then some ((.lit (.int .i64 (n : Nat)) : DataW Unit), ([] : List MemPlace)) else none) = _
  rw [if_pos rfl]
theorem FR_inv {b : Nat} {v : Value} {z : DataW Unit × List MemPlace} (h : FR b v = some z) : (∃ n : Nat, v = .func (.func n) #[.pointer (some ⟨b, 0, none⟩)] #[] ∧ z.1 = .lit (.int .i64 (n : Nat))) ∨ (v = .nilFunc ∧ z.1 = .lit (.bool false)) := by
  unfold FR at h
  split at h
  · rename_i n f c
    obtain ⟨h1, h2, h3⟩ := FRl_inv h
    have e1 : f = #[.pointer (some ⟨b, 0, none⟩)] := by rw [← Array.toArray_toList (xs := f), h1]
    have e2 : c = #[] := by rw [← Array.toArray_toList (xs := c), h2]
    exact .inl ⟨n, by rw [e1, e2], h3⟩
  · injection h with h
    subst h
    exact .inr ⟨rfl, rfl⟩
  · cases h
def funD (l : List (Int × Nat)) : DataW Unit := l.foldl (fun D p => D.put (.int .i64 p.1) (.lit (.int .i64 (p.2 : Nat)))) (.map [])
theorem funD_snoc (l : List (Int × Nat)) (p : Int × Nat) : funD (l ++ [p]) = (funD l).put (.int .i64 p.1) (.lit (.int .i64 (p.2 : Nat))) := by simp [funD, List.foldl_append]
/-- A map from numbers to methods. -/
def FunsAt (w : World) (M b : Nat) (l : List (Int × Nat)) : Prop := w.ownsMap Tryz.prog 3 (FR b) M l.length (funD l)
theorem FunsAt.chg {S : List Nat} {w w' : World} {M b : Nat} {l : List (Int × Nat)} (h : FunsAt w M b l) (hc : Chg S w w') (hne : M ∉ S) : FunsAt w' M b l := by
  have hlt := World.ownsMap.lt h
  obtain ⟨es, clock, hb, r⟩ := h
  exact ⟨es, clock, by rw [hc.block M hlt hne]; exact hb, r⟩
theorem intKey {k : Int} (h : (Lit.int .i64 k).wf = true) : keyOf Tryz.prog 3 (.int .i64 k) = some (.int .i64 k) := Maps.keyOf_int_mk Tryz.underlying3 h
set_option maxRecDepth 100000 in
theorem wpList_insertF {w : World} {ops : Array Oper} {rest : List Oper} {o : Oper} {a : Act} {Q : Exit → Act → World → Prop} (hgd : o.guard = none) (x k v : Operand)
    (ho : o.op = .insert 133 x k v) {M b n : Nat} {i : Int} {l : List (Int × Nat)} (hx : a.eval x = .map (some M)) (hk : a.eval k = .int .i64 i) (hv : a.eval v = .func (.func n) #[.pointer (some ⟨b, 0, none⟩)] #[])
    (hm : FunsAt w M b l) (hw : (Lit.int .i64 i).wf = true) (hl : l.length < maxLen)
    (h : ∀ w', FunsAt w' M b (l ++ [(i, n)]) → Chg [M] w w' → wpList Tryz.prog ops Q rest (a.put o.dst undef) w') : wpList Tryz.prog ops Q (o :: rest) a w :=
  wpList_plain hgd fun K hK => by
    obtain ⟨w', hrun, h2, h3⟩ := World.ownsMap.store hm voteK Tryz.underlying133 hl (intKey hw) (FR_mk b n)
    have h4 : FunsAt w' M b (l ++ [(i, n)]) := by
      unfold FunsAt
      rw [funD_snoc, List.length_append]
      exact h2
    unfold Oper.wp
    simp only [execOp, ho, hx, hk, hv, hrun, Sem.run_bind, Sem.run_pure, Result.andThen_ok]
    exact hK _ _ (h w' h4 (VotesAt.turned h3))
set_option maxRecDepth 100000 in
theorem FunsAt.look {w : World} {M b : Nat} (n0 n1 n2 n3 : Nat) (h : FunsAt w M b [(0, n0), (1, n1), (2, n2), (3, n3)]) (k : Int) (hw : (Lit.int .i64 k).wf = true) :
    (Instr.lookup 133 (.map (some M)) (.int .i64 k) false).run Tryz.prog w = .ok (if k = 0 then .func (.func n0) #[.pointer (some ⟨b, 0, none⟩)] #[] else if k = 1 then .func (.func n1) #[.pointer (some ⟨b, 0, none⟩)] #[] else if k = 2 then .func (.func n2) #[.pointer (some ⟨b, 0, none⟩)] #[] else if k = 3 then .func (.func n3) #[.pointer (some ⟨b, 0, none⟩)] #[] else .nilFunc) w := by
  have hz : (zeroValue 72).run Tryz.prog w = .ok .nilFunc w := by kernel_rfl
  obtain ⟨v, ps, hrun, hv⟩ := World.ownsMap.lookup h voteK Tryz.underlying133 hz (zd := .lit (.bool false)) (zp := []) rfl (intKey hw)
  rw [hrun]
  congr 1
  have hD : funD [(0, n0), (1, n1), (2, n2), (3, n3)] = ((((DataW.map []).put (.int .i64 0) (.lit (.int .i64 (n0 : Nat)))).put (.int .i64 1) (.lit (.int .i64 (n1 : Nat)))).put (.int .i64 2) (.lit (.int .i64 (n2 : Nat)))).put (.int .i64 3) (.lit (.int .i64 (n3 : Nat))) := rfl
  rw [hD] at hv
  have key : ∀ i : Int, (Lit.int .i64 i).wf = true → WideAt.IsKeyLit (.int .i64 i) := fun i hi => voteK.key (intKey hi)
  have ne : ∀ {i j : Int}, i ≠ j → Lit.int .i64 i ≠ Lit.int .i64 j := fun h e => h (by injection e)
  have fin : ∀ n : Nat, FR b v = some (.lit (.int .i64 (n : Nat)), ps) → v = .func (.func n) #[.pointer (some ⟨b, 0, none⟩)] #[] := fun n hn => by
    rcases FR_inv hn with ⟨n', h1, h2⟩ | ⟨_, h2⟩
    · simp only at h2
      injection h2 with h2
      injection h2 with _ h2
      rw [h1]
      have : n = n' := by omega
      rw [this]
    · simp only at h2
      injection h2 with h2
      cases h2
  by_cases h0 : k = 0
  · subst h0
    rw [if_pos rfl]
    rw [Maps.atKey_put_other (ne (by omega)), Maps.atKey_put_other (ne (by omega)), Maps.atKey_put_other (ne (by omega)), Maps.atKey_put_same Maps.isMap_empty (key 0 (by decide))] at hv
    exact fin _ hv
  rw [if_neg h0]
  by_cases h1 : k = 1
  · subst h1
    rw [if_pos rfl]
    rw [Maps.atKey_put_other (ne (by omega)), Maps.atKey_put_other (ne (by omega)), Maps.atKey_put_same (Maps.isMap_empty.put _ _) (key 1 (by decide))] at hv
    exact fin _ hv
  rw [if_neg h1]
  by_cases h2 : k = 2
  · subst h2
    rw [if_pos rfl]
    rw [Maps.atKey_put_other (ne (by omega)), Maps.atKey_put_same ((Maps.isMap_empty.put _ _).put _ _) (key 2 (by decide))] at hv
    exact fin _ hv
  rw [if_neg h2]
  by_cases h3 : k = 3
  · subst h3
    rw [if_pos rfl]
    rw [Maps.atKey_put_same (((Maps.isMap_empty.put _ _).put _ _).put _ _) (key 3 (by decide))] at hv
    exact fin _ hv
  rw [if_neg h3]
  rw [Maps.atKey_put_other (ne h3), Maps.atKey_put_other (ne h2), Maps.atKey_put_other (ne h1), Maps.atKey_put_other (ne h0)] at hv
  rcases FR_inv hv with ⟨n', _, h2⟩ | ⟨h1, _⟩
  · simp [DataW.atKey] at h2
  · exact h1
end Go.Proofs.YthjdbmfobmnnlaaGreat

/-
  A vote comes.
-/
namespace Go.Proofs.YthjdbmfobmnnlaaGreat
open Go.RowKit
set_option linter.unusedVariables false
theorem nodup_le {l : List Int} (h : l.Nodup) : ∀ n : Nat, (∀ v ∈ l, 1 ≤ v ∧ v ≤ (n : Int)) → l.length ≤ n := by
  intro n
  induction n generalizing l with
  | zero =>
    intro hv
    cases l with
    | nil => simp
    | cons x xs => have := hv x (by simp); omega
  | succ n ih =>
    intro hv
    have h1 := ih (h.erase ((n : Int) + 1)) fun v hm => by
      have hm2 := (h.mem_erase_iff).1 hm
      have := hv v hm2.2
      have := hm2.1
      omega
    have h2 := List.length_erase (a := (n : Int) + 1) (l := l)
    split at h2 <;> omega
theorem votes_le {m : Mb} (h : MbOk m) : m.votes.length ≤ 16 := nodup_le h.nodup 16 h.votes
section
variable {w : World} {b : Nat} {a : MA} {m : Mb}
set_option maxRecDepth 100000 in
set_option maxHeartbeats 6400000 in
theorem voted_any (h : MAt w b a m) (hok : MbOk m) (x : Ms) (hx1 : 1 ≤ x.frm) (hx2 : x.frm ≤ 16) (am : Option Addr) (cm : Nat) : Calls Tryz.prog 72 #[.pointer (some ⟨b, 0, none⟩), x.val am cm] w (RetR (m.voted x).1 (m.voted x).2 b a w) := by
  obtain ⟨xk, xf, xd, xt, xi, xl, xc, xy, xe⟩ := x
  simp only at hx1 hx2
  show Calls _ _ #[.pointer (some ⟨b, 0, none⟩), .agg #[.int .i64 xk, .int .i64 xf, .int .i64 xd, .int .i64 xt, .int .i64 xi, .int .i64 xl, .int .i64 xc, .bool xy, .slice am xe.length cm]] _ _
  have hal := below1 w (.cells #[.int .i64 xk, .int .i64 xf, .int .i64 xd, .int .i64 xt, .int .i64 xi, .int .i64 xl, .int .i64 xc, .bool xy, .slice am xe.length cm] 70)
  have g0 := blk_new w (.cells #[.int .i64 xk, .int .i64 xf, .int .i64 xd, .int .i64 xt, .int .i64 xi, .int .i64 xl, .int .i64 xc, .bool xy, .slice am xe.length cm] 70)
  have HA := Lib.hid (h.below hal)
  have hnx := h.new (Nat.le_refl w.heap.size)
  obtain ⟨c0, c1, c2, c3, c4, c5, c6, c7, c8, c9, hlt⟩ := box10 (h.below hal).blk
  obtain ⟨x0, x1, x2, x3, x4, x5, x6, x7, x8⟩ := box9 g0
  have flt := blk_lt g0
  have S0 : Step w b a (w.alloc (.cells #[.int .i64 xk, .int .i64 xf, .int .i64 xd, .int .i64 xt, .int .i64 xi, .int .i64 xl, .int .i64 xc, .bool xy, .slice am xe.length cm] 70)) a := .of_below hal
  by_cases hno : m.role ≠ 1 ∨ xt ≠ m.term ∨ xy = false
  · have HV : Hid (m.voted ⟨xk, xf, xd, xt, xi, xl, xc, xy, xe⟩ = (m, [])) := if_pos hno
    have hcase : (m.role != 1) = true ∨ ((m.role != 1) = false ∧ (xt != m.term) = true) ∨ ((m.role != 1) = false ∧ (xt != m.term) = false ∧ xy = false) := by
      by_cases h1 : m.role = 1
      · by_cases h2 : xt = m.term
        · right; right
          refine ⟨by simp [h1], by simp [h2], ?_⟩
          rcases hno with h3 | h3 | h3
          · exact (h3 h1).elim
          · exact (h3 h2).elim
          · exact h3
        · right; left; exact ⟨by simp [h1], by simpa using h2⟩
      · left; simpa using h1
    clear hno
    rcases hcase with h1 | ⟨h1, h2⟩ | ⟨h1, h2, h3⟩
    · go_enter Tryz.func72, Tryz.ntmps72
      go_wp2
      go_quiet (fail)
      go_wp2
      go_ret
      rw [HV.out]
      exact RetR.nil (HA.out.many _) (S0.many _)
    · go_enter Tryz.func72, Tryz.ntmps72
      go_wp2
      go_quiet (fail)
      go_wp2
      go_ret
      rw [HV.out]
      exact RetR.nil (HA.out.many _) (S0.many _)
    · subst h3
      go_enter Tryz.func72, Tryz.ntmps72
      go_wp2
      go_quiet (fail)
      go_wp2
      go_ret
      rw [HV.out]
      exact RetR.nil (HA.out.many _) (S0.many _)
  have HV : Hid (m.voted ⟨xk, xf, xd, xt, xi, xl, xc, xy, xe⟩ = if (m.counted ⟨xk, xf, xd, xt, xi, xl, xc, xy, xe⟩).won = true then ((m.counted ⟨xk, xf, xd, xt, xi, xl, xc, xy, xe⟩).lead, (m.counted ⟨xk, xf, xd, xt, xi, xl, xc, xy, xe⟩).lead.adds) else (m.counted ⟨xk, xf, xd, xt, xi, xl, xc, xy, xe⟩, [])) := if_neg hno
  have h1 : (m.role != 1) = false := by
    by_cases h : m.role = 1
    · simp [h]
    · exact (hno (.inl h)).elim
  have ht : 1 ≤ m.term := hok.live (by simp at h1; omega)
  have h2 : (xt != m.term) = false := by
    by_cases h : xt = m.term
    · simp [h]
    · exact (hno (.inr (.inl h))).elim
  have h3 : xy = true := by
    cases hy : xy with
    | true => rfl
    | false => exact (hno (.inr (.inr hy))).elim
  have HOKC := Lib.hid (hok.counted ⟨xk, xf, xd, xt, xi, xl, xc, xy, xe⟩ ⟨hx1, hx2⟩)
  have hn16 : (if xf ∈ m.votes then m.votes else m.votes ++ [xf]).length ≤ 16 := votes_le HOKC.out
  have HN := Lib.hid hn16
  clear hno hn16
  subst h3
  go_enter Tryz.func72, Tryz.ntmps72
  go_wp2
  go_quiet (fail)
  go_wp2
  have H1 := HA.out.many nq
  have g1 := blk_many g0 nq
  have S1 := S0.many nq
  clear c0 c1 c2 c3 c4 c5 c6 c7 c8 c9 hlt x0 x1 x2 x3 x4 x5 x6 x7 x8 flt HA S0 g0 hal
  generalize (w.alloc (.cells #[.int .i64 xk, .int .i64 xf, .int .i64 xd, .int .i64 xt, .int .i64 xi, .int .i64 xl, .int .i64 xc, .bool true, .slice am xe.length cm] 70)).drewN nq = W1 at *
  obtain ⟨c0, c1, c2, c3, c4, c5, c6, c7, c8, c9, hlt⟩ := box10 H1.blk
  obtain ⟨x0, x1, x2, x3, x4, x5, x6, x7, x8⟩ := box9 g1
  have flt := blk_lt g1
  go_still_tail 6, (by kernel_rfl)
  show wpList _ _ _ _ _ W1.drew
  refine wpList_vote rfl (.tmp 28) (.tmp 30) (by rfl) (by rfl) (by rfl) H1.drew.votes hx1 hx2 HN.out ?_
  intro w3 hv3 hc3
  have HM3 : MAt w3 b a (m.counted ⟨xk, xf, xd, xt, xi, xl, xc, true, xe⟩) := H1.drew.newVotes hc3 hv3
  have S3 := S1.drew.votes hc3
  clear hv3
  have HWON := Lib.hid (won_any HM3 HOKC.out)
  have htc : 1 ≤ (m.counted ⟨xk, xf, xd, xt, xi, xl, xc, true, xe⟩).term := ht
  generalize m.counted ⟨xk, xf, xd, xt, xi, xl, xc, true, xe⟩ = mc at *
  have HMH := Lib.hid HM3
  clear c0 c1 c2 c3 c4 c5 c6 c7 c8 c9 hlt x0 x1 x2 x3 x4 x5 x6 x7 x8 flt HM3
  cases hw : mc.won with
  | true =>
    rw [hw] at HWON
    rw [hw, if_pos rfl] at HV
    clear hw
    go_wp2_with (first
      | (go_at_call 62; refine HWON.out.mono ?_; rintro e w4 ⟨rfl, hb4⟩; have HL := Lib.hid (lead_any (HMH.out.below hb4) HOKC.out htc))
      | (go_at_call 63; refine HL.out.mono ?_; rintro e w5 ⟨a5, B5, A5, c5, sl5, rfl, H5, S5, hB5, hF5, hms5⟩))
    go_ret
    rw [HV.out]
    exact ⟨a5, B5, A5, c5, sl5, rfl, H5, (S3.below hb4).trans S5, Nat.le_trans (S3.below hb4).chg.size hB5, hF5, hms5⟩
  | false =>
    rw [hw] at HWON
    rw [hw, if_neg (by decide)] at HV
    clear hw
    go_wp2_with (go_at_call 62; refine HWON.out.mono ?_; rintro e w4 ⟨rfl, hb4⟩)
    go_ret
    rw [HV.out]
    exact RetR.nil (HMH.out.below hb4) (S3.below hb4)
end
end Go.Proofs.YthjdbmfobmnnlaaGreat

/-
  Is an entry of a message of a greater term?
-/
namespace Go.Proofs.YthjdbmfobmnnlaaGreat
open Go.RowKit
set_option linter.unusedVariables false
abbrev enA (e : En) : Value := .agg #[.int .i64 e.1, .int .i64 e.2.1, .int .i64 e.2.2.1, .int .i64 e.2.2.2.1, .int .i64 e.2.2.2.2.1, .int .i64 e.2.2.2.2.2.1, .int .i64 e.2.2.2.2.2.2]
theorem oddE_any (e : En) (X : Nat) (T : Int) (w : World) (hX : w.cell? ⟨X, 3, none⟩ = some (.int .i64 T)) (hlt : X < w.heap.size) : Calls Tryz.prog 119 #[enA e, .pointer (some ⟨X, 0, none⟩)] w fun en w' => en = .returned (.bool (decide (T < e.1))) ∧ Below w.heap.size w w' := by
  obtain ⟨e0, e1, e2, e3, e4, e5, e6⟩ := e
  have hal := below1 w (.cells #[.int .i64 e0, .int .i64 e1, .int .i64 e2, .int .i64 e3, .int .i64 e4, .int .i64 e5, .int .i64 e6] 82)
  have hc := ((bcell hal).1 X 3 hlt).trans hX
  show Calls _ _ #[.agg #[.int .i64 e0, .int .i64 e1, .int .i64 e2, .int .i64 e3, .int .i64 e4, .int .i64 e5, .int .i64 e6], .pointer (some ⟨X, 0, none⟩)] _ _
  clear hX
  go_enter Tryz.func119, Tryz.ntmps119
  go_wp2
  go_ret
  exact ⟨rfl, hal⟩
theorem any_stop {p : En → Bool} {es : List En} {k : Nat} (hk : k < es.length) (h : p (es[k]'hk) = true) : es.any p = true := List.any_eq_true.2 ⟨_, List.getElem_mem hk, h⟩
theorem any_go {p : En → Bool} {es : List En} {k : Nat} (hk : k < es.length) (h0 : (es.take k).any p = false) (h : p (es[k]'hk) = false) : (es.take (k + 1)).any p = false := by rw [List.take_succ_eq_append_getElem hk, List.any_append, h0]; simp [h]
set_option maxRecDepth 100000 in
set_option maxHeartbeats 3200000 in
theorem mindexE_any (am : Option Addr) (cm : Nat) (es : List En) (X : Nat) (T : Int) (w : World) (hl : LogIn w am cm es) (hs : es.length ≤ 1000000) (hX : w.cell? ⟨X, 3, none⟩ = some (.int .i64 T)) (hlt : X < w.heap.size) :
    Calls Tryz.prog 178 #[.slice am es.length cm, .func (.func 119) #[] #[.pointer (some ⟨X, 0, none⟩)]] w fun en w' => (∃ i : Int, en = .returned (.int .i64 i) ∧ -1 ≤ i ∧ decide (0 ≤ i) = es.any fun e => decide (T < e.1)) ∧ Below w.heap.size w w' := by
  have HL := Lib.hid hl
  have HX := Lib.hid hX
  clear hX
  go_enter Tryz.func178, Tryz.ntmps178
  go_wp2
  go_loopw [8] (fun i wr => ∃ k : Nat, k ≤ es.length ∧ i = .int .i64 (k : Int) ∧ Hid ((es.take k).any (fun e => decide (T < e.1)) = false) ∧ Below w.heap.size w wr) (fun i _ => es.length - (intOf i).toNat)
  case atStart => exact ⟨0, by omega, rfl, rfl, below0 _⟩
  case round =>
    obtain ⟨k, hk, rfl, HP, hb⟩ := hrel
    by_cases hk2 : k < es.length
    · obtain ⟨g, off, rfl, hg, d0, d1, d2, d3, d4, d5, d6⟩ := entry_cells (HL.out.row.below hb) hk2
      have hO : Hid (Calls Tryz.prog 119 #[enA (es[k]'hk2), .pointer (some ⟨X, 0, none⟩)] wr fun en w' => en = .returned (.bool (decide (T < (es[k]'hk2).1))) ∧ Below wr.heap.size wr w') := oddE_any _ X T wr (((bcell hb).1 X 3 hlt).trans HX.out) (Nat.lt_of_lt_of_le hlt hb.size)
      have hk0 : (0 : Int) ≤ (k : Int) := by omega
      have hk1 : (k : Int) < (es.length : Int) := by omega
      by_cases hp : T < (es[k]'hk2).1
      · have HR := Lib.hid (any_stop (p := fun e => decide (T < e.1)) hk2 (decide_eq_true hp))
        rw [decide_eq_true hp] at hO
        clear hp
        generalize (es[k]'hk2) = y at hO d0 d1 d2 d3 d4 d5 d6
        go_wp2_with (go_at_call 119; refine hO.out.mono ?_; rintro en w1 ⟨rfl, hb1⟩)
        go_ret
        exact ⟨⟨_, rfl, by omega, by rw [HR.out]; simp⟩, hb.trans (hb1.mono hb.size)⟩
      · have HR := Lib.hid (any_go (p := fun e => decide (T < e.1)) hk2 HP.out (decide_eq_false hp))
        rw [decide_eq_false hp] at hO
        clear hp
        generalize (es[k]'hk2) = y at hO d0 d1 d2 d3 d4 d5 d6
        go_wp2_with (go_at_call 119; refine hO.out.mono ?_; rintro en w1 ⟨rfl, hb1⟩)
        go_roundw
        case rel => exact ⟨k + 1, by omega, by go_num, HR, hb.trans (hb1.mono hb.size)⟩
        case measure => simp [intOf]; omega
    · have hk' : k = es.length := by omega
      subst hk'
      have HP2 : Hid (es.any (fun e => decide (T < e.1)) = false) := by have := HP.out; rwa [List.take_length] at this
      go_wp2
      go_ret
      exact ⟨⟨-1, rfl, by omega, by rw [HP2.out]; rfl⟩, hb⟩
theorem mcontainsE_any (am : Option Addr) (cm : Nat) (es : List En) (X : Nat) (T : Int) (w : World) (hl : LogIn w am cm es) (hs : es.length ≤ 1000000) (hX : w.cell? ⟨X, 3, none⟩ = some (.int .i64 T)) (hlt : X < w.heap.size) :
    Calls Tryz.prog 121 #[.slice am es.length cm, .func (.func 119) #[] #[.pointer (some ⟨X, 0, none⟩)]] w fun en w' => en = .returned (.bool (es.any fun e => decide (T < e.1))) ∧ Below w.heap.size w w' := by
  have HS := Lib.hid (mindexE_any am cm es X T w hl hs hX hlt)
  clear hX hl
  go_enter Tryz.func121, Tryz.ntmps121
  go_wp2_with (go_at_call 178; refine HS.out.mono ?_; rintro e w1 ⟨⟨i, rfl, hi1, hi2⟩, hb1⟩; replace hi2 := Lib.hid hi2)
  go_ret
  exact ⟨ret_bool hi2.out, hb1⟩
end Go.Proofs.YthjdbmfobmnnlaaGreat
