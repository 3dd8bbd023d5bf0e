/-
  Part Rd of the proof.
-/
import Derived.Test.YtnljdkglncmfaaaGreatBh
import Derived.Test.YtnljdkglncmfaaaGreatBi
namespace Go.Proofs.YtnljdkglncmfaaaGreat
open Go.RowKit
set_option linter.unusedVariables false
abbrev set3' (w:World) (F:Nat) (x y z:Value):World:=((w.setCell ⟨F,3,none⟩ x).setCell ⟨F,4,none⟩ y).setCell ⟨F,5,none⟩ z
theorem LogIn.lt {w:World} {am:Option Addr} {cm:Nat} {es:List En} (h:LogIn w am cm es) (h0:es.length≠0):∀ x ∈ zU am,x<w.heap.size:=by
  intro x hx
  rcases h.row with h1 | ⟨b,off,rfl,hlt,_⟩
  · have:=zAQ es
    rw [h1] at this
    simp at this
    omega
  · simp only [zU,List.mem_singleton] at hx
    subst hx
    exact hlt
theorem LogIn.store {w:World} {am:Option Addr} {cm:Nat} {es:List En} (h:LogIn w am cm es) {b:Nat} (hb:es.length≠0 → ∀ x ∈ zU am,x≠b) (i:Nat) (v:Value):LogIn (w.setCell ⟨b,i,none⟩ v) am cm es:=by
  refine ⟨?_,h.cap,h.none_,h.max⟩
  by_cases h0:es.length=0
  · obtain rfl:=List.eq_nil_of_length_eq_zero h0
    exact RowAt.nil
  · exact h.row.chg ((Chg.refl [b] w).setCell (.inl (by simp)) i v) fun x hx hc=>hb h0 x hx (by simpa using hc)
theorem MAt.newLog {w:World} {b:Nat} {a:MA} {m:Mb} (h:MAt w b a m) {base:Nat} (hbase:∀ x ∈ foot b a,x<base) {A:Option Addr} {c:Nat} {l:List En} (hown:w.ownsRow base 42 7 (.slice A l.length c) l.length (ensV l)) :
    MAt (set3' w b (.int .i64 0) (.int .i64 0) (.slice A l.length c)) b { a with la:=A,lc:=c } { m with log:=l }:=by
  obtain ⟨a1,a2,a3,a4,a5,a6⟩:=h.apart
  have hA:∀ x ∈ zU A,x≠b:=fun x hx e=>by have:=(zAU hown x hx).1;have:=hbase b (zBM b a);omega
  have g3:(set3' w b (.int .i64 0) (.int .i64 0) (.slice A l.length c)).heap[b]?=some (.cells (mbC { m with log:=l } { a with la:=A,lc:=c }) 106):=by
    have h0:(w.setCell ⟨b,3,none⟩ (.int .i64 0)).heap[b]?=some (.cells (mbC m a) 106):=zQ (i:=3) h.blk (.int .i64 0)
    have h1:((w.setCell ⟨b,3,none⟩ (.int .i64 0)).setCell ⟨b,4,none⟩ (.int .i64 0)).heap[b]?=some (.cells (mbC m a) 106):=zQ (i:=4) h0 (.int .i64 0)
    exact zQ (i:=5) h1 (.slice A l.length c)
  have hv:∀ x ∈ zU (some (⟨a.oa,0,none⟩:Addr)),x≠b:=fun x hx=>by simp only [zU,List.mem_singleton] at hx;subst hx;exact a2
  exact ⟨g3,zW (zBT (zBT (zBT hown hA _ _) hA _ _) hA _ _) (Nat.zero_le _),((h.votes.setCell a1 _ _).setCell a1 _ _).setCell a1 _ _,zBT (zBT (zBT h.prog hv _ _) hv _ _) hv _ _⟩
theorem Step.newLog {w w1:World} {b:Nat} {a a1:MA} (h:Step w b a w1 a1) {base:Nat} {A:Option Addr} {c n:Nat} {xs:List Value} (hown:w1.ownsRow base 42 7 (.slice A n c) n xs) (hb:w.heap.size≤base) (x y z:Value) :
    Step w b a (set3' w1 b x y z) { a1 with la:=A,lc:=c } :=
  ⟨((h.chg.setCell (.inl (zBM b a)) 3 x).setCell (.inl (zBM b a)) 4 y).setCell (.inl (zBM b a)) 5 z,fun k hk=>by
    simp only [foot,List.cons_append,List.nil_append,List.mem_cons] at hk
    rcases hk with rfl | rfl | rfl | hk
    · exact .inl (zBM _ _)
    · exact h.sub _ (foot_v _ _)
    · exact h.sub _ (foot_o _ _)
    · exact .inr (Nat.le_trans hb (zAU hown k hk).1)⟩
theorem RetR.oneN {w w1 w':World} {b n:Nat} {a a':MA} {m':Mb} (x:Ms) {A:Option Addr} {c:Nat} (h:MAt w1 b a' m') (hs:Step w b a w1 a') (he:w1.ownsRow w1.heap.size 42 7 (.slice A x.ents.length c) x.ents.length (ensV x.ents))
    (hw:w'=w1.alloc (.cells #[.int .i64 x.kind,.int .i64 x.frm,.int .i64 x.dst,.int .i64 x.term,.int .i64 x.index,.int .i64 x.lterm,.int .i64 x.commit,.bool x.yes,.slice A x.ents.length c] 78)) (hn:w1.heap.size=n):RetR m' [x] b a w (.returned (.slice (some ⟨n,0,none⟩) 1 1)) w':=by
  subst hn
  exact RetR.one x h hs he hw
section
variable {w:World} {b:Nat} {a:MA} {m:Mb}
set_option maxRecDepth 100000 in
set_option maxHeartbeats 6400000 in
theorem add_old (h:MAt w b a m) (hok:MbOk m) (xk xf xd xt xi xl xc:Int) (xy:Bool) (xe:List En) (am:Option Addr) (cm:Nat) (hl:LogIn w am cm xe) (hs:xe.length≤1000000) (ho:xt<m.term) :
    Calls Tryz.prog 67 #[.pointer (some ⟨b,0,none⟩),.agg #[.int .i64 xk,.int .i64 xf,.int .i64 xd,.int .i64 xt,.int .i64 xi,.int .i64 xl,.int .i64 xc,.bool xy,.slice am xe.length cm]] w (RetR m [m.say 3 xf] b a w):=by
  have HS:Hid (∀ W,Below w.heap.size w W → Calls Tryz.prog 59 #[.pointer (some ⟨b,0,none⟩),.int .i64 3,.int .i64 xf] W fun e w'=>e=.returned (.agg #[.int .i64 3,.int .i64 m.id,.int .i64 xf,.int .i64 m.term,.int .i64 0,.int .i64 0,.int .i64 0,.bool false,.slice none 0 0])∧Below W.heap.size W w'):=fun W hW=>say_any (h.below hW) 3 xf
  have HO:=Lib.hid h
  have HLI:=Lib.hid hl
  clear hl
  have hal:=zAE w (.cells #[.int .i64 xk,.int .i64 xf,.int .i64 xd,.int .i64 xt,.int .i64 xi,.int .i64 xl,.int .i64 xc,.bool xy,.slice am xe.length cm] 78) (.cells #[.int .i64 0,.int .i64 0,.slice none 0 0] 55)
  have gx:=zT w (.cells #[.int .i64 xk,.int .i64 xf,.int .i64 xd,.int .i64 xt,.int .i64 xi,.int .i64 xl,.int .i64 xc,.bool xy,.slice am xe.length cm] 78) (.cells #[.int .i64 0,.int .i64 0,.slice none 0 0] 55)
  have gl:=zR w (.cells #[.int .i64 xk,.int .i64 xf,.int .i64 xd,.int .i64 xt,.int .i64 xi,.int .i64 xl,.int .i64 xc,.bool xy,.slice am xe.length cm] 78) (.cells #[.int .i64 0,.int .i64 0,.slice none 0 0] 55)
  obtain ⟨x0,x1,x2,x3,x4,x5,x6,x7,x8⟩:=box9 gx
  go_enter Tryz.func67,Tryz.ntmps67
  go_wp2
  refine zBF 0 rfl ?_
  go_wp2_with (go_at_call 59;refine (HS.out _ hal).mono ?_;rintro e w1 ⟨rfl,hb1⟩;have hw1:=hal.trans (hb1.mono hal.size);have gX0:=zA hb1 gx;have gL0:=zA hb1 gl)
  have hwA:=hw1.trans ((zC w1 (.cells #[.int .i64 3,.int .i64 m.id,.int .i64 xf,.int .i64 m.term,.int .i64 0,.int .i64 0,.int .i64 0,.bool false,.slice none 0 0] 78)).mono hw1.size)
  have gX:=zA (zC w1 (.cells #[.int .i64 3,.int .i64 m.id,.int .i64 xf,.int .i64 m.term,.int .i64 0,.int .i64 0,.int .i64 0,.bool false,.slice none 0 0] 78)) gX0
  have gL:=zA (zC w1 (.cells #[.int .i64 3,.int .i64 m.id,.int .i64 xf,.int .i64 m.term,.int .i64 0,.int .i64 0,.int .i64 0,.bool false,.slice none 0 0] 78)) gL0
  have G1:=zG w1 (.cells #[.int .i64 3,.int .i64 m.id,.int .i64 xf,.int .i64 m.term,.int .i64 0,.int .i64 0,.int .i64 0,.bool false,.slice none 0 0] 78)
  have hltL:=zB gL0
  have hnx:=h.new (Nat.le_refl w.heap.size)
  have hnl:=h.new (Nat.le_succ w.heap.size)
  have hn1:w1.heap.size ∉ foot b a:=h.new hw1.size
  have hF1:w.heap.size≤w1.heap.size:=hw1.size
  clear hb1 hw1 gX0 gL0 gx gl hal x0 x1 x2 x3 x4 x5 x6 x7 x8
  generalize w1.alloc (.cells #[.int .i64 3,.int .i64 m.id,.int .i64 xf,.int .i64 m.term,.int .i64 0,.int .i64 0,.int .i64 0,.bool false,.slice none 0 0] 78)=W1 at *
  generalize w1.heap.size=F1 at *
  have hbF:b≠F1:=fun e=>hn1 (e ▸ zBM b a)
  have hbX:b≠w.heap.size:=fun e=>hnx (e ▸ zBM b a)
  have hbL:b≠w.heap.size+1:=fun e=>hnl (e ▸ zBM b a)
  have hFX:w.heap.size≠F1:=by omega
  have hFL:w.heap.size+1≠F1:=by omega
  have H1:=HO.out.below hwA
  have S1:Step w b a W1 a:=.of_below hwA
  obtain ⟨x0,x1,x2,x3,x4,x5,x6,x7,x8⟩:=box9 gX
  obtain ⟨c0,c1,c2,c3,c4,c5,c6,c7,c8,c9,hlt⟩:=zAK H1.blk
  have flt:=zB gX
  go_quiet (fail)
  replace H1:=H1.many nq
  replace S1:=S1.many nq
  replace gX:=zI gX nq
  replace gL:=zI gL nq
  replace G1:=zI G1 nq
  replace hwA:=Below.many hwA nq
  clear x0 x1 x2 x3 x4 x5 x6 x7 x8 c0 c1 c2 c3 c4 c5 c6 c7 c8 c9 hlt flt
  generalize W1.drewN nq=W1 at *
  obtain ⟨x0,x1,x2,x3,x4,x5,x6,x7,x8⟩:=box9 gX
  obtain ⟨c0,c1,c2,c3,c4,c5,c6,c7,c8,c9,hlt⟩:=zAK H1.blk
  have flt:=zB gX
  go_wp2
  refine wp_goto (And.intro rfl ?_)
  obtain ⟨y0,y1,y2,y3,y4,y5,y6,y7,y8⟩:=box9 G1
  go_wp2
  simp only [Exit.jump]
  go_ret
  exact RetR.one ⟨3,m.id,xf,m.term,0,0,0,false,[]⟩ H1 S1 (World.ownsRow_nil _ _ _ _) rfl
set_option maxRecDepth 100000 in
set_option maxHeartbeats 6400000 in
theorem add_lead (h:MAt w b a m) (hok:MbOk m) (xk xf xd xt xi xl xc:Int) (xy:Bool) (xe:List En) (am:Option Addr) (cm:Nat) (hl:LogIn w am cm xe) (hs:xe.length≤1000000) (ho:m.term≤xt) (hr:m.role=2) :
    Calls Tryz.prog 67 #[.pointer (some ⟨b,0,none⟩),.agg #[.int .i64 xk,.int .i64 xf,.int .i64 xd,.int .i64 xt,.int .i64 xi,.int .i64 xl,.int .i64 xc,.bool xy,.slice am xe.length cm]] w (RetR m [] b a w):=by
  have HS:Hid (∀ W,Below w.heap.size w W → Calls Tryz.prog 59 #[.pointer (some ⟨b,0,none⟩),.int .i64 3,.int .i64 xf] W fun e w'=>e=.returned (.agg #[.int .i64 3,.int .i64 m.id,.int .i64 xf,.int .i64 m.term,.int .i64 0,.int .i64 0,.int .i64 0,.bool false,.slice none 0 0])∧Below W.heap.size W w'):=fun W hW=>say_any (h.below hW) 3 xf
  have HO:=Lib.hid h
  have HLI:=Lib.hid hl
  clear hl
  have hal:=zAE w (.cells #[.int .i64 xk,.int .i64 xf,.int .i64 xd,.int .i64 xt,.int .i64 xi,.int .i64 xl,.int .i64 xc,.bool xy,.slice am xe.length cm] 78) (.cells #[.int .i64 0,.int .i64 0,.slice none 0 0] 55)
  have gx:=zT w (.cells #[.int .i64 xk,.int .i64 xf,.int .i64 xd,.int .i64 xt,.int .i64 xi,.int .i64 xl,.int .i64 xc,.bool xy,.slice am xe.length cm] 78) (.cells #[.int .i64 0,.int .i64 0,.slice none 0 0] 55)
  have gl:=zR w (.cells #[.int .i64 xk,.int .i64 xf,.int .i64 xd,.int .i64 xt,.int .i64 xi,.int .i64 xl,.int .i64 xc,.bool xy,.slice am xe.length cm] 78) (.cells #[.int .i64 0,.int .i64 0,.slice none 0 0] 55)
  obtain ⟨x0,x1,x2,x3,x4,x5,x6,x7,x8⟩:=box9 gx
  have hr1:(m.role == 2)=true:=by simpa using hr
  clear hr
  go_enter Tryz.func67,Tryz.ntmps67
  go_wp2
  refine zBF 0 rfl ?_
  go_wp2_with (go_at_call 59;refine (HS.out _ hal).mono ?_;rintro e w1 ⟨rfl,hb1⟩;have hw1:=hal.trans (hb1.mono hal.size);have gX0:=zA hb1 gx;have gL0:=zA hb1 gl)
  have hwA:=hw1.trans ((zC w1 (.cells #[.int .i64 3,.int .i64 m.id,.int .i64 xf,.int .i64 m.term,.int .i64 0,.int .i64 0,.int .i64 0,.bool false,.slice none 0 0] 78)).mono hw1.size)
  have gX:=zA (zC w1 (.cells #[.int .i64 3,.int .i64 m.id,.int .i64 xf,.int .i64 m.term,.int .i64 0,.int .i64 0,.int .i64 0,.bool false,.slice none 0 0] 78)) gX0
  have gL:=zA (zC w1 (.cells #[.int .i64 3,.int .i64 m.id,.int .i64 xf,.int .i64 m.term,.int .i64 0,.int .i64 0,.int .i64 0,.bool false,.slice none 0 0] 78)) gL0
  have G1:=zG w1 (.cells #[.int .i64 3,.int .i64 m.id,.int .i64 xf,.int .i64 m.term,.int .i64 0,.int .i64 0,.int .i64 0,.bool false,.slice none 0 0] 78)
  have hltL:=zB gL0
  have hnx:=h.new (Nat.le_refl w.heap.size)
  have hnl:=h.new (Nat.le_succ w.heap.size)
  have hn1:w1.heap.size ∉ foot b a:=h.new hw1.size
  have hF1:w.heap.size≤w1.heap.size:=hw1.size
  clear hb1 hw1 gX0 gL0 gx gl hal x0 x1 x2 x3 x4 x5 x6 x7 x8
  generalize w1.alloc (.cells #[.int .i64 3,.int .i64 m.id,.int .i64 xf,.int .i64 m.term,.int .i64 0,.int .i64 0,.int .i64 0,.bool false,.slice none 0 0] 78)=W1 at *
  generalize w1.heap.size=F1 at *
  have hbF:b≠F1:=fun e=>hn1 (e ▸ zBM b a)
  have hbX:b≠w.heap.size:=fun e=>hnx (e ▸ zBM b a)
  have hbL:b≠w.heap.size+1:=fun e=>hnl (e ▸ zBM b a)
  have hFX:w.heap.size≠F1:=by omega
  have hFL:w.heap.size+1≠F1:=by omega
  have H1:=HO.out.below hwA
  have S1:Step w b a W1 a:=.of_below hwA
  obtain ⟨x0,x1,x2,x3,x4,x5,x6,x7,x8⟩:=box9 gX
  obtain ⟨c0,c1,c2,c3,c4,c5,c6,c7,c8,c9,hlt⟩:=zAK H1.blk
  have flt:=zB gX
  go_quiet (fail)
  replace H1:=H1.many nq
  replace S1:=S1.many nq
  replace gX:=zI gX nq
  replace gL:=zI gL nq
  replace G1:=zI G1 nq
  replace hwA:=Below.many hwA nq
  clear x0 x1 x2 x3 x4 x5 x6 x7 x8 c0 c1 c2 c3 c4 c5 c6 c7 c8 c9 hlt flt
  generalize W1.drewN nq=W1 at *
  obtain ⟨x0,x1,x2,x3,x4,x5,x6,x7,x8⟩:=box9 gX
  obtain ⟨c0,c1,c2,c3,c4,c5,c6,c7,c8,c9,hlt⟩:=zAK H1.blk
  have flt:=zB gX
  go_wp2
  simp only [Exit.jump]
  go_ret
  exact RetR.nil H1 S1
set_option maxRecDepth 100000 in
set_option maxHeartbeats 6400000 in
theorem add_err (h:MAt w b a m) (hok:MbOk m) (xk xf xd xt xi xl xc:Int) (xy:Bool) (xe:List En) (am:Option Addr) (cm:Nat) (hl:LogIn w am cm xe) (hs:xe.length≤1000000) (ho:m.term≤xt) (hr:m.role≠2) (hdis:xe.length≠0 → ∀ x ∈ zU am,x ∉ foot b a) (he:(addF 0 0 m.log xi xl xe).2.2.2≠0) :
    Calls Tryz.prog 67 #[.pointer (some ⟨b,0,none⟩),.agg #[.int .i64 xk,.int .i64 xf,.int .i64 xd,.int .i64 xt,.int .i64 xi,.int .i64 xl,.int .i64 xc,.bool xy,.slice am xe.length cm]] w (RetR m.follow [{ m.say 3 xf with index:=(lastF 0 0 m.log).1 }] b a w):=by
  have HS:Hid (∀ W,Below w.heap.size w W → Calls Tryz.prog 59 #[.pointer (some ⟨b,0,none⟩),.int .i64 3,.int .i64 xf] W fun e w'=>e=.returned (.agg #[.int .i64 3,.int .i64 m.id,.int .i64 xf,.int .i64 m.term,.int .i64 0,.int .i64 0,.int .i64 0,.bool false,.slice none 0 0])∧Below W.heap.size W w'):=fun W hW=>say_any (h.below hW) 3 xf
  have hr1:(m.role == 2)=false:=by simpa using hr
  have hlb:xe.length≠0 → ∀ x ∈ zU am,x≠b:=fun h0 x hx e=>hdis h0 x hx (e ▸ zBM b a)
  have hll:xe.length≠0 → ∀ x ∈ zU am,x≠w.heap.size+1:=fun h0 x hx=>by have:=hl.lt h0 x hx;omega
  clear hr hdis
  have HO:=Lib.hid h
  have HLI:=Lib.hid hl
  clear hl
  have hal:=zAE w (.cells #[.int .i64 xk,.int .i64 xf,.int .i64 xd,.int .i64 xt,.int .i64 xi,.int .i64 xl,.int .i64 xc,.bool xy,.slice am xe.length cm] 78) (.cells #[.int .i64 0,.int .i64 0,.slice none 0 0] 55)
  have gx:=zT w (.cells #[.int .i64 xk,.int .i64 xf,.int .i64 xd,.int .i64 xt,.int .i64 xi,.int .i64 xl,.int .i64 xc,.bool xy,.slice am xe.length cm] 78) (.cells #[.int .i64 0,.int .i64 0,.slice none 0 0] 55)
  have gl:=zR w (.cells #[.int .i64 xk,.int .i64 xf,.int .i64 xd,.int .i64 xt,.int .i64 xi,.int .i64 xl,.int .i64 xc,.bool xy,.slice am xe.length cm] 78) (.cells #[.int .i64 0,.int .i64 0,.slice none 0 0] 55)
  obtain ⟨x0,x1,x2,x3,x4,x5,x6,x7,x8⟩:=box9 gx
  go_enter Tryz.func67,Tryz.ntmps67
  go_wp2
  refine zBF 0 rfl ?_
  go_wp2_with (go_at_call 59;refine (HS.out _ hal).mono ?_;rintro e w1 ⟨rfl,hb1⟩;have hw1:=hal.trans (hb1.mono hal.size);have gX0:=zA hb1 gx;have gL0:=zA hb1 gl)
  have hwA:=hw1.trans ((zC w1 (.cells #[.int .i64 3,.int .i64 m.id,.int .i64 xf,.int .i64 m.term,.int .i64 0,.int .i64 0,.int .i64 0,.bool false,.slice none 0 0] 78)).mono hw1.size)
  have gX:=zA (zC w1 (.cells #[.int .i64 3,.int .i64 m.id,.int .i64 xf,.int .i64 m.term,.int .i64 0,.int .i64 0,.int .i64 0,.bool false,.slice none 0 0] 78)) gX0
  have gL:=zA (zC w1 (.cells #[.int .i64 3,.int .i64 m.id,.int .i64 xf,.int .i64 m.term,.int .i64 0,.int .i64 0,.int .i64 0,.bool false,.slice none 0 0] 78)) gL0
  have G1:=zG w1 (.cells #[.int .i64 3,.int .i64 m.id,.int .i64 xf,.int .i64 m.term,.int .i64 0,.int .i64 0,.int .i64 0,.bool false,.slice none 0 0] 78)
  have hltL:=zB gL0
  have hnx:=h.new (Nat.le_refl w.heap.size)
  have hnl:=h.new (Nat.le_succ w.heap.size)
  have hn1:w1.heap.size ∉ foot b a:=h.new hw1.size
  have hF1:w.heap.size≤w1.heap.size:=hw1.size
  clear hb1 hw1 gX0 gL0 gx gl hal x0 x1 x2 x3 x4 x5 x6 x7 x8
  generalize w1.alloc (.cells #[.int .i64 3,.int .i64 m.id,.int .i64 xf,.int .i64 m.term,.int .i64 0,.int .i64 0,.int .i64 0,.bool false,.slice none 0 0] 78)=W1 at *
  generalize w1.heap.size=F1 at *
  have hbF:b≠F1:=fun e=>hn1 (e ▸ zBM b a)
  have hbX:b≠w.heap.size:=fun e=>hnx (e ▸ zBM b a)
  have hbL:b≠w.heap.size+1:=fun e=>hnl (e ▸ zBM b a)
  have hFX:w.heap.size≠F1:=by omega
  have hFL:w.heap.size+1≠F1:=by omega
  have H1:=HO.out.below hwA
  have S1:Step w b a W1 a:=.of_below hwA
  obtain ⟨x0,x1,x2,x3,x4,x5,x6,x7,x8⟩:=box9 gX
  obtain ⟨c0,c1,c2,c3,c4,c5,c6,c7,c8,c9,hlt⟩:=zAK H1.blk
  have flt:=zB gX
  go_quiet (fail)
  replace H1:=H1.many nq
  replace S1:=S1.many nq
  replace gX:=zI gX nq
  replace gL:=zI gL nq
  replace G1:=zI G1 nq
  replace hwA:=Below.many hwA nq
  clear x0 x1 x2 x3 x4 x5 x6 x7 x8 c0 c1 c2 c3 c4 c5 c6 c7 c8 c9 hlt flt
  generalize W1.drewN nq=W1 at *
  obtain ⟨x0,x1,x2,x3,x4,x5,x6,x7,x8⟩:=box9 gX
  obtain ⟨c0,c1,c2,c3,c4,c5,c6,c7,c8,c9,hlt⟩:=zAK H1.blk
  have flt:=zB gX
  obtain ⟨fr0,fr1,fr2,fr3,fr4,fr5,fr6,fr7,fr8,fr9⟩:=fro9 H1.blk
  go_wp2
  have H2:MAt (W1.setCell ⟨b,6,none⟩ (.int .i64 0)) b a { m with role:=0 }:=H1.store 6 (.int .i64 0) (m':={ m with role:=0 }) rfl rfl rfl rfl
  have S2:Step w b a (W1.setCell ⟨b,6,none⟩ (.int .i64 0)) a:=S1.store 6 _
  have gX2:(W1.setCell ⟨b,6,none⟩ (.int .i64 0)).heap[w.heap.size]?=_:=zL gX (Ne.symm hbX) _
  have gL2:(W1.setCell ⟨b,6,none⟩ (.int .i64 0)).heap[w.heap.size+1]?=_:=zL gL (Ne.symm hbL) _
  have G2:(W1.setCell ⟨b,6,none⟩ (.int .i64 0)).heap[F1]?=_:=zL G1 (Ne.symm hbF) _
  have hl2:LogIn (W1.setCell ⟨b,6,none⟩ (.int .i64 0)) am cm xe:=(HLI.out.below hwA).store hlb 6 _
  clear x0 x1 x2 x3 x4 x5 x6 x7 x8 c0 c1 c2 c3 c4 c5 c6 c7 c8 c9 hlt flt fr0 fr1 fr2 fr3 fr4 fr5 fr6 fr7 fr8 fr9 H1 S1 gX gL G1
  generalize W1.setCell ⟨b,6,none⟩ (.int .i64 0)=W2 at *
  obtain ⟨x0,x1,x2,x3,x4,x5,x6,x7,x8⟩:=box9 gX2
  obtain ⟨c0,c1,c2,c3,c4,c5,c6,c7,c8,c9,hlt⟩:=zAK H2.blk
  have flt:=zB gX2
  have HA2:Hid (Calls Tryz.prog 101 #[logV 0 0 a.la m.log.length a.lc,.int .i64 xi,.int .i64 xl,.slice am xe.length cm] W2.drew (RetLogO (addF 0 0 m.log xi xl xe) W2.drew)):=addO_any 0 0 a.la a.lc m.log xi xl am cm xe W2.drew (LogIn.of_own H2.drew.log) (hl2.below (zK _).drew) hs
  have HX2:=Lib.hid hl2
  clear hl2
  generalize addF 0 0 m.log xi xl xe=R at *
  obtain ⟨rb,rt,rl,re⟩:=R
  simp only at he HA2
  go_cut [5,6] (fun p q wx=>∃ a3 ca3,p=.pointer (some ⟨w.heap.size+1,0,none⟩)∧q=.int .i64 re∧wx.heap[w.heap.size+1]?=some (.cells #[.int .i64 rb,.int .i64 rt,.slice a3 rl.length ca3] 55)∧wx.heap[w.heap.size]?=some (.cells #[.int .i64 xk,.int .i64 xf,.int .i64 xd,.int .i64 xt,.int .i64 xi,.int .i64 xl,.int .i64 xc,.bool xy,.slice am xe.length cm] 78)∧wx.heap[F1]?=some (.cells #[.int .i64 3,.int .i64 m.id,.int .i64 xf,.int .i64 m.term,.int .i64 0,.int .i64 0,.int .i64 0,.bool false,.slice none 0 0] 78)∧MAt wx b a { m with role:=0 }∧Step w b a wx a∧LogIn wx am cm xe∧W2.heap.size≤wx.heap.size∧wx.ownsRow W2.heap.size 42 7 (.slice a3 rl.length ca3) rl.length (ensV rl))
  case first =>
    go_region_held3 (fun W=>W.cell? ⟨b,3,none⟩=some (.int .i64 0)∧W.cell? ⟨b,4,none⟩=some (.int .i64 0)∧W.cell? ⟨b,5,none⟩=some (.slice a.la m.log.length a.lc)∧W.cell? ⟨w.heap.size,4,none⟩=some (.int .i64 xi)∧W.cell? ⟨w.heap.size,5,none⟩=some (.int .i64 xl)∧W.cell? ⟨w.heap.size,8,none⟩=some (.slice am xe.length cm)) (first | with_reducible exact ⟨c3,c4,c5,x4,x5,x8⟩ | with_reducible exact ⟨d3,d4,d5,y4,y5,y8⟩ | with_reducible exact ⟨k3,k4,k5,j4,j5,j8⟩ | go_keep) ((go_at_call 101;refine HA2.out.mono ?_;rintro e w3 ⟨a3,ca3,rfl,own3,hb3⟩;have H3:=H2.drew.below hb3;have gX3:=zA hb3 (zM gX2);have gL3:=zA hb3 (zM gL2);have G3:=zA hb3 (zM G2);have hl3:=(HX2.out.below (zK _).drew).below hb3;have S3:=(S2.drew).below hb3;obtain ⟨l0,l1,l2,lf0,lf1,lf2,llt⟩:=box3 gL3;obtain ⟨y0,y1,y2,y3,y4,y5,y6,y7,y8⟩:=box9 gX3;obtain ⟨d0,d1,d2,d3,d4,d5,d6,d7,d8,d9,dlt⟩:=zAK H3.blk;obtain ⟨j0,j1,j2,j3,j4,j5,j6,j7,j8⟩:=box9 (zBC gX3 (show w.heap.size≠w.heap.size+1 by omega) (.int .i64 rb) (.int .i64 rt) (.slice a3 rl.length ca3));obtain ⟨k0,k1,k2,k3,k4,k5,k6,k7,k8,k9,klt⟩:=zAK (zBC H3.blk hbL (.int .i64 rb) (.int .i64 rt) (.slice a3 rl.length ca3));have hsz3:=hb3.size))
    all_goals (go_wp2_with fail;go_meet)
    all_goals exact ⟨a3,ca3,rfl,rfl,zZ gL3 _ _ _,zBC gX3 (by omega) _ _ _,zBC G3 (by omega) _ _ _,((H3.far hnl _ _).far hnl _ _).far hnl _ _,((S3.fresh (Nat.le_succ _) _ _).fresh (Nat.le_succ _) _ _).fresh (Nat.le_succ _) _ _,((hl3.store hll _ _).store hll _ _).store hll _ _,by simpa [World.setCell] using hsz3,zCH own3 (by have:=zB gL2;exact this) _ _ _⟩
  case rest =>
    obtain ⟨a3,ca3,rfl,rfl,gL4,gX4,G4,H4,S4,hl4,hsz4,own4⟩:=hcut
    clear x0 x1 x2 x3 x4 x5 x6 x7 x8 c0 c1 c2 c3 c4 c5 c6 c7 c8 c9 hlt flt
    obtain ⟨x0,x1,x2,x3,x4,x5,x6,x7,x8⟩:=box9 gX4
    obtain ⟨l0,l1,l2,lf0,lf1,lf2,llt⟩:=box3 gL4
    obtain ⟨y0,y1,y2,y3,y4,y5,y6,y7,y8⟩:=box9 G4
    obtain ⟨fs0,fs1,fs2,fs3,fs4,fs5,fs6,fs7,fs8,fs9⟩:=fro9 G4
    obtain ⟨c0,c1,c2,c3,c4,c5,c6,c7,c8,c9,hlt⟩:=zAK H4.blk
    obtain ⟨fr0,fr1,fr2,fr3,fr4,fr5,fr6,fr7,fr8,fr9⟩:=fro9 H4.blk
    have flt:=zB gX4
    have glt:=zB G4
    have HX4:=Lib.hid hl4
    clear hl4
    have he1:(re != 0)=true:=by simpa using he
    clear he
    have HLA:=Lib.hid (zCM H4)
    simp only at HLA
    go_wp2_with (go_at_call 93;refine HLA.out.mono ?_;rintro e w5 ⟨rfl,hb5⟩;have H4':=H4.below hb5;have S4':=S4.below hb5;have G5:=zA hb5 G4;obtain ⟨y0,y1,y2,y3,y4,y5,y6,y7,y8⟩:=box9 G5;obtain ⟨fs0,fs1,fs2,fs3,fs4,fs5,fs6,fs7,fs8,fs9⟩:=fro9 G5;have glt:=zB G5)
    have hF:=zB G4
    refine wp_goto (And.intro rfl ?_)
    go_wp2
    simp only [Exit.jump]
    go_ret
    exact RetR.oneN ⟨3,m.id,xf,m.term,(lastF 0 0 m.log).1,0,0,false,[]⟩ (H4'.far hn1 4 (.int .i64 (lastF 0 0 m.log).1)) (S4'.fresh hF1 4 (.int .i64 (lastF 0 0 m.log).1)) (World.ownsRow_nil _ _ _ _) rfl (by simp [World.setCell])
set_option maxRecDepth 100000 in
set_option maxHeartbeats 6400000 in
theorem add_odd (h:MAt w b a m) (hok:MbOk m) (xk xf xd xt xi xl xc:Int) (xy:Bool) (xe:List En) (am:Option Addr) (cm:Nat) (hl:LogIn w am cm xe) (hs:xe.length≤1000000) (ho:m.term≤xt) (hr:m.role≠2) (hdis:xe.length≠0 → ∀ x ∈ zU am,x ∉ foot b a) (he:(addF 0 0 m.log xi xl xe).2.2.2=0) (hodd:(xe.any fun e=>decide (xt<e.1))=true) :
    Calls Tryz.prog 67 #[.pointer (some ⟨b,0,none⟩),.agg #[.int .i64 xk,.int .i64 xf,.int .i64 xd,.int .i64 xt,.int .i64 xi,.int .i64 xl,.int .i64 xc,.bool xy,.slice am xe.length cm]] w (RetR m.follow [{ m.say 3 xf with index:=(lastF 0 0 m.log).1 }] b a w):=by
  have HS:Hid (∀ W,Below w.heap.size w W → Calls Tryz.prog 59 #[.pointer (some ⟨b,0,none⟩),.int .i64 3,.int .i64 xf] W fun e w'=>e=.returned (.agg #[.int .i64 3,.int .i64 m.id,.int .i64 xf,.int .i64 m.term,.int .i64 0,.int .i64 0,.int .i64 0,.bool false,.slice none 0 0])∧Below W.heap.size W w'):=fun W hW=>say_any (h.below hW) 3 xf
  have hr1:(m.role == 2)=false:=by simpa using hr
  have hlb:xe.length≠0 → ∀ x ∈ zU am,x≠b:=fun h0 x hx e=>hdis h0 x hx (e ▸ zBM b a)
  have hll:xe.length≠0 → ∀ x ∈ zU am,x≠w.heap.size+1:=fun h0 x hx=>by have:=hl.lt h0 x hx;omega
  clear hr hdis
  have HO:=Lib.hid h
  have HLI:=Lib.hid hl
  clear hl
  have hal:=zAE w (.cells #[.int .i64 xk,.int .i64 xf,.int .i64 xd,.int .i64 xt,.int .i64 xi,.int .i64 xl,.int .i64 xc,.bool xy,.slice am xe.length cm] 78) (.cells #[.int .i64 0,.int .i64 0,.slice none 0 0] 55)
  have gx:=zT w (.cells #[.int .i64 xk,.int .i64 xf,.int .i64 xd,.int .i64 xt,.int .i64 xi,.int .i64 xl,.int .i64 xc,.bool xy,.slice am xe.length cm] 78) (.cells #[.int .i64 0,.int .i64 0,.slice none 0 0] 55)
  have gl:=zR w (.cells #[.int .i64 xk,.int .i64 xf,.int .i64 xd,.int .i64 xt,.int .i64 xi,.int .i64 xl,.int .i64 xc,.bool xy,.slice am xe.length cm] 78) (.cells #[.int .i64 0,.int .i64 0,.slice none 0 0] 55)
  obtain ⟨x0,x1,x2,x3,x4,x5,x6,x7,x8⟩:=box9 gx
  go_enter Tryz.func67,Tryz.ntmps67
  go_wp2
  refine zBF 0 rfl ?_
  go_wp2_with (go_at_call 59;refine (HS.out _ hal).mono ?_;rintro e w1 ⟨rfl,hb1⟩;have hw1:=hal.trans (hb1.mono hal.size);have gX0:=zA hb1 gx;have gL0:=zA hb1 gl)
  have hwA:=hw1.trans ((zC w1 (.cells #[.int .i64 3,.int .i64 m.id,.int .i64 xf,.int .i64 m.term,.int .i64 0,.int .i64 0,.int .i64 0,.bool false,.slice none 0 0] 78)).mono hw1.size)
  have gX:=zA (zC w1 (.cells #[.int .i64 3,.int .i64 m.id,.int .i64 xf,.int .i64 m.term,.int .i64 0,.int .i64 0,.int .i64 0,.bool false,.slice none 0 0] 78)) gX0
  have gL:=zA (zC w1 (.cells #[.int .i64 3,.int .i64 m.id,.int .i64 xf,.int .i64 m.term,.int .i64 0,.int .i64 0,.int .i64 0,.bool false,.slice none 0 0] 78)) gL0
  have G1:=zG w1 (.cells #[.int .i64 3,.int .i64 m.id,.int .i64 xf,.int .i64 m.term,.int .i64 0,.int .i64 0,.int .i64 0,.bool false,.slice none 0 0] 78)
  have hltL:=zB gL0
  have hnx:=h.new (Nat.le_refl w.heap.size)
  have hnl:=h.new (Nat.le_succ w.heap.size)
  have hn1:w1.heap.size ∉ foot b a:=h.new hw1.size
  have hF1:w.heap.size≤w1.heap.size:=hw1.size
  clear hb1 hw1 gX0 gL0 gx gl hal x0 x1 x2 x3 x4 x5 x6 x7 x8
  generalize w1.alloc (.cells #[.int .i64 3,.int .i64 m.id,.int .i64 xf,.int .i64 m.term,.int .i64 0,.int .i64 0,.int .i64 0,.bool false,.slice none 0 0] 78)=W1 at *
  generalize w1.heap.size=F1 at *
  have hbF:b≠F1:=fun e=>hn1 (e ▸ zBM b a)
  have hbX:b≠w.heap.size:=fun e=>hnx (e ▸ zBM b a)
  have hbL:b≠w.heap.size+1:=fun e=>hnl (e ▸ zBM b a)
  have hFX:w.heap.size≠F1:=by omega
  have hFL:w.heap.size+1≠F1:=by omega
  have H1:=HO.out.below hwA
  have S1:Step w b a W1 a:=.of_below hwA
  obtain ⟨x0,x1,x2,x3,x4,x5,x6,x7,x8⟩:=box9 gX
  obtain ⟨c0,c1,c2,c3,c4,c5,c6,c7,c8,c9,hlt⟩:=zAK H1.blk
  have flt:=zB gX
  go_quiet (fail)
  replace H1:=H1.many nq
  replace S1:=S1.many nq
  replace gX:=zI gX nq
  replace gL:=zI gL nq
  replace G1:=zI G1 nq
  replace hwA:=Below.many hwA nq
  clear x0 x1 x2 x3 x4 x5 x6 x7 x8 c0 c1 c2 c3 c4 c5 c6 c7 c8 c9 hlt flt
  generalize W1.drewN nq=W1 at *
  obtain ⟨x0,x1,x2,x3,x4,x5,x6,x7,x8⟩:=box9 gX
  obtain ⟨c0,c1,c2,c3,c4,c5,c6,c7,c8,c9,hlt⟩:=zAK H1.blk
  have flt:=zB gX
  obtain ⟨fr0,fr1,fr2,fr3,fr4,fr5,fr6,fr7,fr8,fr9⟩:=fro9 H1.blk
  go_wp2
  have H2:MAt (W1.setCell ⟨b,6,none⟩ (.int .i64 0)) b a { m with role:=0 }:=H1.store 6 (.int .i64 0) (m':={ m with role:=0 }) rfl rfl rfl rfl
  have S2:Step w b a (W1.setCell ⟨b,6,none⟩ (.int .i64 0)) a:=S1.store 6 _
  have gX2:(W1.setCell ⟨b,6,none⟩ (.int .i64 0)).heap[w.heap.size]?=_:=zL gX (Ne.symm hbX) _
  have gL2:(W1.setCell ⟨b,6,none⟩ (.int .i64 0)).heap[w.heap.size+1]?=_:=zL gL (Ne.symm hbL) _
  have G2:(W1.setCell ⟨b,6,none⟩ (.int .i64 0)).heap[F1]?=_:=zL G1 (Ne.symm hbF) _
  have hl2:LogIn (W1.setCell ⟨b,6,none⟩ (.int .i64 0)) am cm xe:=(HLI.out.below hwA).store hlb 6 _
  clear x0 x1 x2 x3 x4 x5 x6 x7 x8 c0 c1 c2 c3 c4 c5 c6 c7 c8 c9 hlt flt fr0 fr1 fr2 fr3 fr4 fr5 fr6 fr7 fr8 fr9 H1 S1 gX gL G1
  generalize W1.setCell ⟨b,6,none⟩ (.int .i64 0)=W2 at *
  obtain ⟨x0,x1,x2,x3,x4,x5,x6,x7,x8⟩:=box9 gX2
  obtain ⟨c0,c1,c2,c3,c4,c5,c6,c7,c8,c9,hlt⟩:=zAK H2.blk
  have flt:=zB gX2
  have HA2:Hid (Calls Tryz.prog 101 #[logV 0 0 a.la m.log.length a.lc,.int .i64 xi,.int .i64 xl,.slice am xe.length cm] W2.drew (RetLogO (addF 0 0 m.log xi xl xe) W2.drew)):=addO_any 0 0 a.la a.lc m.log xi xl am cm xe W2.drew (LogIn.of_own H2.drew.log) (hl2.below (zK _).drew) hs
  have HX2:=Lib.hid hl2
  clear hl2
  generalize addF 0 0 m.log xi xl xe=R at *
  obtain ⟨rb,rt,rl,re⟩:=R
  simp only at he HA2
  have HE0:=Lib.hid he
  clear he
  go_cut [5,6] (fun p q wx=>∃ a3 ca3,p=.pointer (some ⟨w.heap.size+1,0,none⟩)∧q=.int .i64 re∧wx.heap[w.heap.size+1]?=some (.cells #[.int .i64 rb,.int .i64 rt,.slice a3 rl.length ca3] 55)∧wx.heap[w.heap.size]?=some (.cells #[.int .i64 xk,.int .i64 xf,.int .i64 xd,.int .i64 xt,.int .i64 xi,.int .i64 xl,.int .i64 xc,.bool xy,.slice am xe.length cm] 78)∧wx.heap[F1]?=some (.cells #[.int .i64 3,.int .i64 m.id,.int .i64 xf,.int .i64 m.term,.int .i64 0,.int .i64 0,.int .i64 0,.bool false,.slice none 0 0] 78)∧MAt wx b a { m with role:=0 }∧Step w b a wx a∧LogIn wx am cm xe∧W2.heap.size≤wx.heap.size∧wx.ownsRow W2.heap.size 42 7 (.slice a3 rl.length ca3) rl.length (ensV rl))
  case first =>
    go_region_held3 (fun W=>W.cell? ⟨b,3,none⟩=some (.int .i64 0)∧W.cell? ⟨b,4,none⟩=some (.int .i64 0)∧W.cell? ⟨b,5,none⟩=some (.slice a.la m.log.length a.lc)∧W.cell? ⟨w.heap.size,4,none⟩=some (.int .i64 xi)∧W.cell? ⟨w.heap.size,5,none⟩=some (.int .i64 xl)∧W.cell? ⟨w.heap.size,8,none⟩=some (.slice am xe.length cm)) (first | with_reducible exact ⟨c3,c4,c5,x4,x5,x8⟩ | with_reducible exact ⟨d3,d4,d5,y4,y5,y8⟩ | with_reducible exact ⟨k3,k4,k5,j4,j5,j8⟩ | go_keep) ((go_at_call 101;refine HA2.out.mono ?_;rintro e w3 ⟨a3,ca3,rfl,own3,hb3⟩;have H3:=H2.drew.below hb3;have gX3:=zA hb3 (zM gX2);have gL3:=zA hb3 (zM gL2);have G3:=zA hb3 (zM G2);have hl3:=(HX2.out.below (zK _).drew).below hb3;have S3:=(S2.drew).below hb3;obtain ⟨l0,l1,l2,lf0,lf1,lf2,llt⟩:=box3 gL3;obtain ⟨y0,y1,y2,y3,y4,y5,y6,y7,y8⟩:=box9 gX3;obtain ⟨d0,d1,d2,d3,d4,d5,d6,d7,d8,d9,dlt⟩:=zAK H3.blk;obtain ⟨j0,j1,j2,j3,j4,j5,j6,j7,j8⟩:=box9 (zBC gX3 (show w.heap.size≠w.heap.size+1 by omega) (.int .i64 rb) (.int .i64 rt) (.slice a3 rl.length ca3));obtain ⟨k0,k1,k2,k3,k4,k5,k6,k7,k8,k9,klt⟩:=zAK (zBC H3.blk hbL (.int .i64 rb) (.int .i64 rt) (.slice a3 rl.length ca3));have hsz3:=hb3.size))
    all_goals (go_wp2_with fail;go_meet)
    all_goals exact ⟨a3,ca3,rfl,rfl,zZ gL3 _ _ _,zBC gX3 (by omega) _ _ _,zBC G3 (by omega) _ _ _,((H3.far hnl _ _).far hnl _ _).far hnl _ _,((S3.fresh (Nat.le_succ _) _ _).fresh (Nat.le_succ _) _ _).fresh (Nat.le_succ _) _ _,((hl3.store hll _ _).store hll _ _).store hll _ _,by simpa [World.setCell] using hsz3,zCH own3 (by have:=zB gL2;exact this) _ _ _⟩
  case rest =>
    obtain ⟨a3,ca3,rfl,rfl,gL4,gX4,G4,H4,S4,hl4,hsz4,own4⟩:=hcut
    clear x0 x1 x2 x3 x4 x5 x6 x7 x8 c0 c1 c2 c3 c4 c5 c6 c7 c8 c9 hlt flt
    obtain ⟨x0,x1,x2,x3,x4,x5,x6,x7,x8⟩:=box9 gX4
    obtain ⟨l0,l1,l2,lf0,lf1,lf2,llt⟩:=box3 gL4
    obtain ⟨y0,y1,y2,y3,y4,y5,y6,y7,y8⟩:=box9 G4
    obtain ⟨fs0,fs1,fs2,fs3,fs4,fs5,fs6,fs7,fs8,fs9⟩:=fro9 G4
    obtain ⟨c0,c1,c2,c3,c4,c5,c6,c7,c8,c9,hlt⟩:=zAK H4.blk
    obtain ⟨fr0,fr1,fr2,fr3,fr4,fr5,fr6,fr7,fr8,fr9⟩:=fro9 H4.blk
    have flt:=zB gX4
    have glt:=zB G4
    have HX4:=Lib.hid hl4
    clear hl4
    obtain rfl:=HE0.out
    clear HE0
    have HLA:=fun W (hW:MAt W b a { m with role:=0 })=>zCM hW
    simp only at HLA
    have HLA:=Lib.hid HLA
    have HCT:=Lib.hid (mcontainsE_any am cm xe w.heap.size xt _ HX4.out hs x3 flt)
    rw [hodd] at HCT
    clear hodd
    go_wp2_with (first
      | (go_at_call 102;refine HCT.out.mono ?_;rintro e w4 ⟨rfl,hb4⟩;have H5:=H4.below hb4;have S5:=S4.below hb4;have G5:=zA hb4 G4;have gL5:=zA hb4 gL4;have gX5:=zA hb4 gX4)
      | (go_at_call 93;refine (HLA.out _ H5).mono ?_;rintro e w5 ⟨rfl,hb5⟩;have H4':=H5.below hb5;have S4':=S5.below hb5;have G6:=zA hb5 G5;obtain ⟨y0,y1,y2,y3,y4,y5,y6,y7,y8⟩:=box9 G6;obtain ⟨fs0,fs1,fs2,fs3,fs4,fs5,fs6,fs7,fs8,fs9⟩:=fro9 G6;have glt:=zB G6))
    have hF:=zB G4
    refine wp_goto (And.intro rfl ?_)
    go_wp2
    simp only [Exit.jump]
    go_ret
    exact RetR.oneN ⟨3,m.id,xf,m.term,(lastF 0 0 m.log).1,0,0,false,[]⟩ (H4'.far hn1 4 (.int .i64 (lastF 0 0 m.log).1)) (S4'.fresh hF1 4 (.int .i64 (lastF 0 0 m.log).1)) (World.ownsRow_nil _ _ _ _) rfl (by simp [World.setCell])
end
section
variable {w:World} {b:Nat} {a:MA} {m:Mb}
set_option maxRecDepth 100000 in
set_option maxHeartbeats 6400000 in
theorem add_yes (h:MAt w b a m) (hok:MbOk m) (xk xf xd xt xi xl xc:Int) (xy:Bool) (xe:List En) (am:Option Addr) (cm:Nat) (hl:LogIn w am cm xe) (hs:xe.length≤1000000) (ho:m.term≤xt) (hr:m.role≠2) (hdis:xe.length≠0 → ∀ x ∈ zU am,x ∉ foot b a) (he:(addF 0 0 m.log xi xl xe).2.2.2=0) (hodd:(xe.any fun e=>decide (xt<e.1))=false) :
    Calls Tryz.prog 67 #[.pointer (some ⟨b,0,none⟩),.agg #[.int .i64 xk,.int .i64 xf,.int .i64 xd,.int .i64 xt,.int .i64 xi,.int .i64 xl,.int .i64 xc,.bool xy,.slice am xe.length cm]] w (RetR (m.added' (addF 0 0 m.log xi xl xe).2.2.1 ⟨xk,xf,xd,xt,xi,xl,xc,xy,xe⟩) [{ m.say 3 xf with yes:=true,index:=xi+xe.length }] b a w):=by
  have HS:Hid (∀ W,Below w.heap.size w W → Calls Tryz.prog 59 #[.pointer (some ⟨b,0,none⟩),.int .i64 3,.int .i64 xf] W fun e w'=>e=.returned (.agg #[.int .i64 3,.int .i64 m.id,.int .i64 xf,.int .i64 m.term,.int .i64 0,.int .i64 0,.int .i64 0,.bool false,.slice none 0 0])∧Below W.heap.size W w'):=fun W hW=>say_any (h.below hW) 3 xf
  have hr1:(m.role == 2)=false:=by simpa using hr
  have hlb:xe.length≠0 → ∀ x ∈ zU am,x≠b:=fun h0 x hx e=>hdis h0 x hx (e ▸ zBM b a)
  have hll:xe.length≠0 → ∀ x ∈ zU am,x≠w.heap.size+1:=fun h0 x hx=>by have:=hl.lt h0 x hx;omega
  clear hr hdis
  obtain ⟨hm1,hm2,hi0,hi1,hm5,hm6,hR⟩:=addF_ok he
  have hlf:=(mergeL_facts m.log xe xi.toNat (by omega)).1
  have hi2:xi+xe.length≤64:=by omega
  have hok64:=hok.len64
  have hse:=hok.set0
  have hse2:=hok.set64
  generalize zAO m.log xi.toNat xe=ml at hR
  clear hm1 hm2 hm5 hm6 hlf he
  rw [hR]
  have HRR:=Lib.hid hR
  clear hR
  have HO:=Lib.hid h
  have HLI:=Lib.hid hl
  clear hl
  have hal:=zAE w (.cells #[.int .i64 xk,.int .i64 xf,.int .i64 xd,.int .i64 xt,.int .i64 xi,.int .i64 xl,.int .i64 xc,.bool xy,.slice am xe.length cm] 78) (.cells #[.int .i64 0,.int .i64 0,.slice none 0 0] 55)
  have gx:=zT w (.cells #[.int .i64 xk,.int .i64 xf,.int .i64 xd,.int .i64 xt,.int .i64 xi,.int .i64 xl,.int .i64 xc,.bool xy,.slice am xe.length cm] 78) (.cells #[.int .i64 0,.int .i64 0,.slice none 0 0] 55)
  have gl:=zR w (.cells #[.int .i64 xk,.int .i64 xf,.int .i64 xd,.int .i64 xt,.int .i64 xi,.int .i64 xl,.int .i64 xc,.bool xy,.slice am xe.length cm] 78) (.cells #[.int .i64 0,.int .i64 0,.slice none 0 0] 55)
  obtain ⟨x0,x1,x2,x3,x4,x5,x6,x7,x8⟩:=box9 gx
  go_enter Tryz.func67,Tryz.ntmps67
  go_wp2
  refine zBF 0 rfl ?_
  go_wp2_with (go_at_call 59;refine (HS.out _ hal).mono ?_;rintro e w1 ⟨rfl,hb1⟩;have hw1:=hal.trans (hb1.mono hal.size);have gX0:=zA hb1 gx;have gL0:=zA hb1 gl)
  have hwA:=hw1.trans ((zC w1 (.cells #[.int .i64 3,.int .i64 m.id,.int .i64 xf,.int .i64 m.term,.int .i64 0,.int .i64 0,.int .i64 0,.bool false,.slice none 0 0] 78)).mono hw1.size)
  have gX:=zA (zC w1 (.cells #[.int .i64 3,.int .i64 m.id,.int .i64 xf,.int .i64 m.term,.int .i64 0,.int .i64 0,.int .i64 0,.bool false,.slice none 0 0] 78)) gX0
  have gL:=zA (zC w1 (.cells #[.int .i64 3,.int .i64 m.id,.int .i64 xf,.int .i64 m.term,.int .i64 0,.int .i64 0,.int .i64 0,.bool false,.slice none 0 0] 78)) gL0
  have G1:=zG w1 (.cells #[.int .i64 3,.int .i64 m.id,.int .i64 xf,.int .i64 m.term,.int .i64 0,.int .i64 0,.int .i64 0,.bool false,.slice none 0 0] 78)
  have hltL:=zB gL0
  have hnx:=h.new (Nat.le_refl w.heap.size)
  have hnl:=h.new (Nat.le_succ w.heap.size)
  have hn1:w1.heap.size ∉ foot b a:=h.new hw1.size
  have hF1:w.heap.size≤w1.heap.size:=hw1.size
  clear hb1 hw1 gX0 gL0 gx gl hal x0 x1 x2 x3 x4 x5 x6 x7 x8
  generalize w1.alloc (.cells #[.int .i64 3,.int .i64 m.id,.int .i64 xf,.int .i64 m.term,.int .i64 0,.int .i64 0,.int .i64 0,.bool false,.slice none 0 0] 78)=W1 at *
  generalize w1.heap.size=F1 at *
  have hbF:b≠F1:=fun e=>hn1 (e ▸ zBM b a)
  have hbX:b≠w.heap.size:=fun e=>hnx (e ▸ zBM b a)
  have hbL:b≠w.heap.size+1:=fun e=>hnl (e ▸ zBM b a)
  have hFX:w.heap.size≠F1:=by omega
  have hFL:w.heap.size+1≠F1:=by omega
  have H1:=HO.out.below hwA
  have S1:Step w b a W1 a:=.of_below hwA
  obtain ⟨x0,x1,x2,x3,x4,x5,x6,x7,x8⟩:=box9 gX
  obtain ⟨c0,c1,c2,c3,c4,c5,c6,c7,c8,c9,hlt⟩:=zAK H1.blk
  have flt:=zB gX
  go_quiet (fail)
  replace H1:=H1.many nq
  replace S1:=S1.many nq
  replace gX:=zI gX nq
  replace gL:=zI gL nq
  replace G1:=zI G1 nq
  replace hwA:=Below.many hwA nq
  clear x0 x1 x2 x3 x4 x5 x6 x7 x8 c0 c1 c2 c3 c4 c5 c6 c7 c8 c9 hlt flt
  generalize W1.drewN nq=W1 at *
  obtain ⟨x0,x1,x2,x3,x4,x5,x6,x7,x8⟩:=box9 gX
  obtain ⟨c0,c1,c2,c3,c4,c5,c6,c7,c8,c9,hlt⟩:=zAK H1.blk
  have flt:=zB gX
  obtain ⟨fr0,fr1,fr2,fr3,fr4,fr5,fr6,fr7,fr8,fr9⟩:=fro9 H1.blk
  go_wp2
  have H2:MAt (W1.setCell ⟨b,6,none⟩ (.int .i64 0)) b a { m with role:=0 }:=H1.store 6 (.int .i64 0) (m':={ m with role:=0 }) rfl rfl rfl rfl
  have S2:Step w b a (W1.setCell ⟨b,6,none⟩ (.int .i64 0)) a:=S1.store 6 _
  have gX2:(W1.setCell ⟨b,6,none⟩ (.int .i64 0)).heap[w.heap.size]?=_:=zL gX (Ne.symm hbX) _
  have gL2:(W1.setCell ⟨b,6,none⟩ (.int .i64 0)).heap[w.heap.size+1]?=_:=zL gL (Ne.symm hbL) _
  have G2:(W1.setCell ⟨b,6,none⟩ (.int .i64 0)).heap[F1]?=_:=zL G1 (Ne.symm hbF) _
  have hl2:LogIn (W1.setCell ⟨b,6,none⟩ (.int .i64 0)) am cm xe:=(HLI.out.below hwA).store hlb 6 _
  clear x0 x1 x2 x3 x4 x5 x6 x7 x8 c0 c1 c2 c3 c4 c5 c6 c7 c8 c9 hlt flt fr0 fr1 fr2 fr3 fr4 fr5 fr6 fr7 fr8 fr9 H1 S1 gX gL G1
  generalize W1.setCell ⟨b,6,none⟩ (.int .i64 0)=W2 at *
  obtain ⟨x0,x1,x2,x3,x4,x5,x6,x7,x8⟩:=box9 gX2
  obtain ⟨c0,c1,c2,c3,c4,c5,c6,c7,c8,c9,hlt⟩:=zAK H2.blk
  have flt:=zB gX2
  have HA2:Hid (Calls Tryz.prog 101 #[logV 0 0 a.la m.log.length a.lc,.int .i64 xi,.int .i64 xl,.slice am xe.length cm] W2.drew (RetLogO (addF 0 0 m.log xi xl xe) W2.drew)):=addO_any 0 0 a.la a.lc m.log xi xl am cm xe W2.drew (LogIn.of_own H2.drew.log) (hl2.below (zK _).drew) hs
  have HX2:=Lib.hid hl2
  clear hl2
  rw [HRR.out] at HA2
  clear HRR
  go_cut [5,6] (fun p q wx=>∃ a3 ca3,p=.pointer (some ⟨w.heap.size+1,0,none⟩)∧q=.int .i64 0∧wx.heap[w.heap.size+1]?=some (.cells #[.int .i64 0,.int .i64 0,.slice a3 ml.length ca3] 55)∧wx.heap[w.heap.size]?=some (.cells #[.int .i64 xk,.int .i64 xf,.int .i64 xd,.int .i64 xt,.int .i64 xi,.int .i64 xl,.int .i64 xc,.bool xy,.slice am xe.length cm] 78)∧wx.heap[F1]?=some (.cells #[.int .i64 3,.int .i64 m.id,.int .i64 xf,.int .i64 m.term,.int .i64 0,.int .i64 0,.int .i64 0,.bool false,.slice none 0 0] 78)∧MAt wx b a { m with role:=0 }∧Step w b a wx a∧LogIn wx am cm xe∧W2.heap.size≤wx.heap.size∧wx.ownsRow W2.heap.size 42 7 (.slice a3 ml.length ca3) ml.length (ensV ml))
  case first =>
    go_region_held3 (fun W=>W.cell? ⟨b,3,none⟩=some (.int .i64 0)∧W.cell? ⟨b,4,none⟩=some (.int .i64 0)∧W.cell? ⟨b,5,none⟩=some (.slice a.la m.log.length a.lc)∧W.cell? ⟨w.heap.size,4,none⟩=some (.int .i64 xi)∧W.cell? ⟨w.heap.size,5,none⟩=some (.int .i64 xl)∧W.cell? ⟨w.heap.size,8,none⟩=some (.slice am xe.length cm)) (first | with_reducible exact ⟨c3,c4,c5,x4,x5,x8⟩ | with_reducible exact ⟨d3,d4,d5,y4,y5,y8⟩ | with_reducible exact ⟨k3,k4,k5,j4,j5,j8⟩ | go_keep) ((go_at_call 101;refine HA2.out.mono ?_;rintro e w3 ⟨a3,ca3,rfl,own3,hb3⟩;have H3:=H2.drew.below hb3;have gX3:=zA hb3 (zM gX2);have gL3:=zA hb3 (zM gL2);have G3:=zA hb3 (zM G2);have hl3:=(HX2.out.below (zK _).drew).below hb3;have S3:=(S2.drew).below hb3;obtain ⟨l0,l1,l2,lf0,lf1,lf2,llt⟩:=box3 gL3;obtain ⟨y0,y1,y2,y3,y4,y5,y6,y7,y8⟩:=box9 gX3;obtain ⟨d0,d1,d2,d3,d4,d5,d6,d7,d8,d9,dlt⟩:=zAK H3.blk;obtain ⟨j0,j1,j2,j3,j4,j5,j6,j7,j8⟩:=box9 (zBC gX3 (show w.heap.size≠w.heap.size+1 by omega) (.int .i64 0) (.int .i64 0) (.slice a3 ml.length ca3));obtain ⟨k0,k1,k2,k3,k4,k5,k6,k7,k8,k9,klt⟩:=zAK (zBC H3.blk hbL (.int .i64 0) (.int .i64 0) (.slice a3 ml.length ca3));have hsz3:=hb3.size))
    all_goals (go_wp2_with fail;go_meet)
    all_goals exact ⟨a3,ca3,rfl,rfl,zZ gL3 _ _ _,zBC gX3 (by omega) _ _ _,zBC G3 (by omega) _ _ _,((H3.far hnl _ _).far hnl _ _).far hnl _ _,((S3.fresh (Nat.le_succ _) _ _).fresh (Nat.le_succ _) _ _).fresh (Nat.le_succ _) _ _,((hl3.store hll _ _).store hll _ _).store hll _ _,by simpa [World.setCell] using hsz3,zCH own3 (by have:=zB gL2;exact this) _ _ _⟩
  case rest =>
    obtain ⟨a3,ca3,rfl,rfl,gL4,gX4,G4,H4,S4,hl4,hsz4,own4⟩:=hcut
    clear x0 x1 x2 x3 x4 x5 x6 x7 x8 c0 c1 c2 c3 c4 c5 c6 c7 c8 c9 hlt flt
    obtain ⟨x0,x1,x2,x3,x4,x5,x6,x7,x8⟩:=box9 gX4
    obtain ⟨l0,l1,l2,lf0,lf1,lf2,llt⟩:=box3 gL4
    obtain ⟨y0,y1,y2,y3,y4,y5,y6,y7,y8⟩:=box9 G4
    obtain ⟨fs0,fs1,fs2,fs3,fs4,fs5,fs6,fs7,fs8,fs9⟩:=fro9 G4
    obtain ⟨c0,c1,c2,c3,c4,c5,c6,c7,c8,c9,hlt⟩:=zAK H4.blk
    obtain ⟨fr0,fr1,fr2,fr3,fr4,fr5,fr6,fr7,fr8,fr9⟩:=fro9 H4.blk
    have flt:=zB gX4
    have glt:=zB G4
    have HX4:=Lib.hid hl4
    clear hl4
    have HCT:=Lib.hid (mcontainsE_any am cm xe w.heap.size xt _ HX4.out hs x3 flt)
    rw [hodd] at HCT
    clear hodd
    go_wp2_with (go_at_call 102;refine HCT.out.mono ?_;rintro e w4 ⟨rfl,hb4⟩;have H5:=H4.below hb4;have S5:=S4.below hb4;have G5:=zA hb4 G4;have gL5:=zA hb4 gL4;have gX5:=zA hb4 gX4;have own5:=zD own4 hb4;have hsz5:=Nat.le_trans hsz4 hb4.size;obtain ⟨l0,l1,l2,lf0,lf1,lf2,llt⟩:=box3 gL5;obtain ⟨fr0,fr1,fr2,fr3,fr4,fr5,fr6,fr7,fr8,fr9⟩:=fro9 H5.blk;obtain ⟨d0,d1,d2,d3,d4,d5,d6,d7,d8,d9,dlt⟩:=zAK H5.blk;obtain ⟨y0,y1,y2,y3,y4,y5,y6,y7,y8⟩:=box9 G5;obtain ⟨fs0,fs1,fs2,fs3,fs4,fs5,fs6,fs7,fs8,fs9⟩:=fro9 G5;obtain ⟨x0,x1,x2,x3,x4,x5,x6,x7,x8⟩:=box9 gX5;have glt:=zB G5;have flt:=zB gX5)
    have H6:=H5.newLog H2.lt own5
    have S6:=S5.newLog own5 (by have:=S2.chg.size;exact this) (.int .i64 0) (.int .i64 0) (.slice a3 ml.length ca3)
    have gX6:(set3' w4 b (.int .i64 0) (.int .i64 0) (.slice a3 ml.length ca3)).heap[w.heap.size]?=_:=zL (zL (zL gX5 (Ne.symm hbX) _) (Ne.symm hbX) _) (Ne.symm hbX) _
    have G6:(set3' w4 b (.int .i64 0) (.int .i64 0) (.slice a3 ml.length ca3)).heap[F1]?=_:=zL (zL (zL G5 (Ne.symm hbF) _) (Ne.symm hbF) _) (Ne.symm hbF) _
    have hnF6:F1 ∉ foot b { a with la:=a3,lc:=ca3 }:=S5.newLog own5 (by have:=S2.chg.size;exact this) (.int .i64 0) (.int .i64 0) (.slice a3 ml.length ca3) |>.sub F1 |> fun q hq=>by
      simp only [foot,List.cons_append,List.nil_append,List.mem_cons] at hq
      rcases hq with e | e | e | e
      · exact hbF e.symm
      · exact hn1 (e ▸ foot_v b a)
      · exact hn1 (e ▸ foot_o b a)
      · have:=(zAU own5 F1 e).1
        have:=zB G2
        omega
    clear l0 l1 l2 lf0 lf1 lf2 llt fr0 fr1 fr2 fr3 fr4 fr5 fr6 fr7 fr8 fr9 d0 d1 d2 d3 d4 d5 d6 d7 d8 d9 dlt y0 y1 y2 y3 y4 y5 y6 y7 y8 fs0 fs1 fs2 fs3 fs4 fs5 fs6 fs7 fs8 fs9 x0 x1 x2 x3 x4 x5 x6 x7 x8 glt flt c0 c1 c2 c3 c4 c5 c6 c7 c8 c9 hlt H5 S5 gX5 gL5 G5 own5 hsz5
    simp only [set3'] at H6 S6 gX6 G6
    generalize ((w4.setCell ⟨b,3,none⟩ (.int .i64 0)).setCell ⟨b,4,none⟩ (.int .i64 0)).setCell ⟨b,5,none⟩ (.slice a3 ml.length ca3)=W6 at *
    obtain ⟨y0,y1,y2,y3,y4,y5,y6,y7,y8⟩:=box9 G6
    obtain ⟨fs0,fs1,fs2,fs3,fs4,fs5,fs6,fs7,fs8,fs9⟩:=fro9 G6
    obtain ⟨x0,x1,x2,x3,x4,x5,x6,x7,x8⟩:=box9 gX6
    have glt:=zB G6
    have flt:=zB gX6
    have hwr:IntKind.i64.wrap (xi+(xe.length:Int))=xi+(xe.length:Int):=zS (by omega) (by omega)
    go_cut [8] (fun p wx=>p=.pointer (some ⟨F1,0,none⟩)∧wx.heap[F1]?=some (.cells #[.int .i64 3,.int .i64 m.id,.int .i64 xf,.int .i64 m.term,.int .i64 (xi+(xe.length:Int)),.int .i64 0,.int .i64 0,.bool true,.slice none 0 0] 78)∧wx.heap[w.heap.size]?=some (.cells #[.int .i64 xk,.int .i64 xf,.int .i64 xd,.int .i64 xt,.int .i64 xi,.int .i64 xl,.int .i64 xc,.bool xy,.slice am xe.length cm] 78)∧MAt wx b { a with la:=a3,lc:=ca3 } { m with role:=0,log:=ml }∧Step w b a wx { a with la:=a3,lc:=ca3 })
    case first =>
      go_region_law (fail)
      all_goals (go_wp2_with fail;go_meet)
      all_goals (
        have q1:=zQ (i:=4) (zQ (i:=7) G6 (.bool true)) (.int .i64 (xi+(xe.length:Int)))
        have q2:=zL (i:=4) (zL (i:=7) gX6 hFX (.bool true)) hFX (.int .i64 (xi+(xe.length:Int)))
        have q3:=((H6.far hnF6 7 (.bool true)).far hnF6 4 (.int .i64 (xi+(xe.length:Int)))).drew
        have q4:=((S6.fresh hF1 7 (.bool true)).fresh hF1 4 (.int .i64 (xi+(xe.length:Int)))).drew
        exact ⟨rfl,q1,q2,q3,q4⟩)
    case rest =>
      obtain ⟨rfl,G7,gX7,H7,S7⟩:=hcut
      clear y0 y1 y2 y3 y4 y5 y6 y7 y8 fs0 fs1 fs2 fs3 fs4 fs5 fs6 fs7 fs8 fs9 x0 x1 x2 x3 x4 x5 x6 x7 x8 glt flt hwr
      obtain ⟨y0,y1,y2,y3,y4,y5,y6,y7,y8⟩:=box9 G7
      obtain ⟨x0,x1,x2,x3,x4,x5,x6,x7,x8⟩:=box9 gX7
      obtain ⟨c0,c1,c2,c3,c4,c5,c6,c7,c8,c9,hlt⟩:=zAK H7.blk
      obtain ⟨fr0,fr1,fr2,fr3,fr4,fr5,fr6,fr7,fr8,fr9⟩:=fro9 H7.blk
      have glt:=zB G7
      have flt:=zB gX7
      go_wp2
      go_still_tail 13,(by kernel_rfl)
      show wpList _ _ _ _ _ wc.drew
      go_wp2
      go_step3
      have H8:MAt (wc.setCell ⟨b,7,none⟩ (.int .i64 (max m.settled (min xc (xi+(xe.length:Int)))))).drew b { a with la:=a3,lc:=ca3 } { m with role:=0,log:=ml,settled:=max m.settled (min xc (xi+(xe.length:Int))) }:=(H7.store 7 (.int .i64 (max m.settled (min xc (xi+(xe.length:Int))))) (m':={ m with role:=0,log:=ml,settled:=max m.settled (min xc (xi+(xe.length:Int))) }) rfl rfl rfl rfl).drew
      have S8:=(S7.store 7 (.int .i64 (max m.settled (min xc (xi+(xe.length:Int)))))).drew
      refine (by assumption:∀ (a:Act) (w:World),_ → _) _ _ ?_
      go_wp2
      go_ret
      exact RetR.oneN ⟨3,m.id,xf,m.term,xi+xe.length,0,0,true,[]⟩ H8 S8 (World.ownsRow_nil _ _ _ _) rfl (by simp [World.setCell])
end
theorem add_any {w:World} {b:Nat} {a:MA} {m:Mb} (h:MAt w b a m) (hok:MbOk m) (x:Ms) (am:Option Addr) (cm:Nat) (hl:LogIn w am cm x.ents) (hs:x.ents.length≤1000000) (hdis:x.ents.length≠0 → ∀ y ∈ zU am,y ∉ foot b a) :
    Calls Tryz.prog 67 #[.pointer (some ⟨b,0,none⟩),x.val am cm] w (RetR (m.add x).1 (m.add x).2 b a w):=by
  obtain ⟨xk,xf,xd,xt,xi,xl,xc,xy,xe⟩:=x
  simp only at hl hs hdis
  unfold Mb.add
  by_cases h1:xt<m.term
  · rw [if_pos h1]
    exact add_old h hok xk xf xd xt xi xl xc xy xe am cm hl hs h1
  rw [if_neg h1]
  by_cases h2:m.role=2
  · rw [if_pos h2]
    exact add_lead h hok xk xf xd xt xi xl xc xy xe am cm hl hs (by omega) h2
  rw [if_neg h2]
  by_cases h3:(addF 0 0 m.log xi xl xe).2.2.2=0
  · by_cases h4:(xe.any fun e=>decide (xt<e.1))=true
    · rw [if_pos (.inr h4)]
      exact add_odd h hok xk xf xd xt xi xl xc xy xe am cm hl hs (by omega) h2 hdis h3 h4
    · rw [if_neg (fun hc=>hc.elim (fun q=>q h3) h4)]
      exact add_yes h hok xk xf xd xt xi xl xc xy xe am cm hl hs (by omega) h2 hdis h3 (by simpa using h4)
  · rw [if_pos (.inl h3)]
    exact add_err h hok xk xf xd xt xi xl xc xy xe am cm hl hs (by omega) h2 hdis h3
end Go.Proofs.YtnljdkglncmfaaaGreat
