/-
 Part PS of the proof.
-/
import Derived.Test.YtogbpifcmhafkaaGreatPN
import Derived.Test.YtogbpifcmhafkaaGreatPM
import Derived.Test.YtogbpifcmhafkaaGreatPP
open Go renaming Addr->mB,Calls->iA,TypeId->tC,Value->uB,World->uA,bodyPost_end->dF,maxLen->fC,results_none->dE
open Go.Lib renaming hid->fA
open Go.Proofs renaming enters_of->yE
open Go.RowKit renaming Hid->jC
open Go.RowKit.Below renaming refl->cC
open Go.Value renaming agg->vE,oneCell'->qE
open Go.World renaming ownsRow_nil->nB
open List renaming append_nil->oF,length_append->kB,length_cons->qD,length_filter_le->eC,length_map->mC,length_take->sB,map_append->gE,take_of_length_le->zC
open Nat renaming le_refl->mA,le_trans->pA,lt_of_lt_of_le->tA,mul_one->vF
open Option renaming some->yA
namespace Go.Proofs.YtogbpifcmhafkaaGreat
open Go.RowKit Tryz
open Go.Lib(hid)
set_option linter.unusedVariables false
set_option linter.unusedSimpArgs false
set_option maxRecDepth 100000
set_option maxHeartbeats 16000000
def xM (node:Int) (x:Ch):Ch × Int:=if kL (ifn x.2.2.2 node) x.2.2.2.length then ((x.1,x.2.1,x.2.2.1,x.2.2.2.take (dG (ifn x.2.2.2 node) 0 x.2.2.2.length) ++ x.2.2.2.drop (dG (ifn x.2.2.2 node) 0 x.2.2.2.length+1)),0) else (x,5)
theorem zFy (N:Nat) (node:Int) (w:uA) (hN:N<w.heap.size) (hn:w.cell? ⟨N,0,none⟩=yA (.int .i64 node)):DoC 340 #[(N,0)] (xM node) w:=by
 intro W base b c ys m hm hb h1 h2 hml hho ho
 obtain ⟨hbb,hbl,a,cc,c0,c1,c2,c3,hoa,hmx,hf,hnb,hup⟩:=ho.upd h2 hm
 have hne:N≠b:=by omega
 have hnW:=((bcell hb).1 N 0 hN).trans hn
 have f3:=hf (m * 4+3)
 have HFL:=fA (yB.of_own (enc:=kG) hoa hmx)
 have hho2:=hho _ (List.getElem_mem hm)
 unfold xM
 generalize ys[m]'hm=x at *
 obtain ⟨x1,x2,x3,x4⟩:=x
 simp only at c0 c1 c2 c3 HFL hup hmx hoa hho2 ⊢
 have HBS:jC (∀ W',yB kG W' a cc x4 -> iA prog 338 #[.slice a x4.length cc,node] W' fun e w'=>e=.returned (.tuple #[.int .i64 (iT (ifn x4 node) x4.length),.bool (kL (ifn x4 node) x4.length)])/\w'=W'):=fA fun W' h=>zLb a cc x4 node W' h
 have HI:jC (iT (ifn x4 node) x4.length=((dG (ifn x4 node) 0 x4.length:Nat):Int)):=rfl
 have hlt:kL (ifn x4 node) x4.length=true -> dG (ifn x4 node) 0 x4.length<x4.length:=fun hB=>by unfold kL at hB;simp at hB;exact hB.1
 rw [HI.out] at HBS
 generalize dG (ifn x4 node) 0 x4.length=k at *
 generalize kL (ifn x4 node) x4.length=fd at *
 cases fd with
 | false =>
  rw [if_neg (by decide)]
  clear hup hoa hf
  go_enter func340,ntmps340
  go_wp2_with fail
  go_region_held3 (fun W=>W.cell? ⟨b,m * 4+3,none⟩=yA (.slice a x4.length cc)/\W.cell? ⟨N,0,none⟩=yA (.int .i64 node)) (exact ⟨c3,hnW⟩) ((go_at_call 338;refine (HBS.out _ HFL.out.drew).mono ?_;rintro e w1 ⟨rfl,hwx⟩;subst hwx))
  go_wp2
  go_ret
  exact ⟨rfl,(cC _ _).drew,fun h=>by cases h⟩
 | true =>
  rw [if_pos rfl]
  have hkl:=hlt rfl
  obtain ⟨g,rfl⟩:∃ g,a=yA ⟨g,0,none⟩:=by
   obtain ⟨g,c',hv,_⟩:=hoa.form (by omega)
   injection hv with e
   exact ⟨g,e⟩
  have hgb:=qC hoa g (by simp [zB])
  have hoD:=mQ hoa (base':=g) (fun x hx=>by simp [zB] at hx;omega)
  have HDE:jC (iA prog 341 #[.slice (yA ⟨g,0,none⟩) x4.length cc,(k:Int),.int .i64 ((k:Int)+1)] W.drew (zKU g cc (x4.length - 1) ((flat kG x4).take k ++ (flat kG x4).drop (k+1)) W.drew)):=fA (zQp g cc x4.length k (flat kG x4) W.drew hoD (jF cV _) hkl hmx)
  obtain ⟨cur,hcur⟩:=ho.blk (by omega)
  have HUP:=fA hup
  clear hup hoa hf ho hoD hlt
  have hk0:(0:Int)<=(k:Int):=by omega
  have hk1:(k:Int)<(x4.length:Int):=by omega
  go_enter func340,ntmps340
  go_wp2_with fail
  go_region_held3 (fun W=>W.cell? ⟨b,m * 4+3,none⟩=yA (.slice (yA ⟨g,0,none⟩) x4.length cc)/\W.cell? ⟨N,0,none⟩=yA (.int .i64 node)) (exact ⟨c3,hnW⟩) ((go_at_call 338;refine (HBS.out _ HFL.out.drew).mono ?_;rintro e w1 ⟨rfl,hwx⟩;subst hwx))
  go_wp2_with (go_at_call 341;refine HDE.out.mono ?_;rintro e w5 ⟨rfl,own5,ch5⟩;have hcur5:=ch5.keep (iB hcur) hnb;have c35:=((jA hcur5 (m * 4+3)).trans (jA hcur _).symm).trans c3;have f35:=qB hcur5 (m * 4+3))
  go_ret
  have hlen:(x4.take k ++ x4.drop (k+1)).length=x4.length - 1:=by simp;omega
  have hch:fD (zB (yA ⟨g,0,none⟩)) W w5:=fD.pre (xC W).drew ch5
  have hbb5:Below base W w5:=(cC base W).drew.trans (ch5.to_below (fun x hx=>by simp at hx;omega) h2)
  have he:(flat kG x4).take k ++ (flat kG x4).drop (k+1)=flat kG (x4.take k ++ x4.drop (k+1)):=by
   rw [uD,<- mL dN,<- wM dN,vF,vF]
  have HN:=HUP.out w5 (yA ⟨g,0,none⟩) cc (x4.take k ++ x4.drop (k+1)) hch (by rw [hlen,<- he];exact oC own5 hgb.1) (fun z hz=>.inl hz) (by rw [hlen];omega)
  rw [hlen] at HN
  exact ⟨rfl,hbb5.setCell (p:=⟨b,m * 4+3,none⟩) hbb _,fun _=>HN⟩
theorem wT.from {r:List Ch × Int} {w w1:uA} {e:Ending} {w':uA} (h:wT r w1 e w') (hb:Below w.heap.size w w1):wT r w e w':=by
 obtain ⟨A,c,rfl,h1,h2⟩:=h
 exact ⟨A,c,rfl,h1.rebase hb.size,hb.trans (h2.mono hb.size)⟩
theorem zKT (A:Option mB) (c:Nat) (xs:List Ch) (id sum:Int) (w:uA) (h:vM w A c xs):iA prog 274 #[.slice A xs.length c,id,.int .u32 sum] w (wT (tJ (vW sum) xs id) w):=by
 obtain ⟨W,hW⟩:∃ W,W=w.alloc (.cells #[.int .u32 sum] 62):=⟨_,rfl⟩
 have hb:Below w.heap.size w W:=by rw [hW];exact wA _ _
 have hg:W.heap[w.heap.size]?=yA (.cells #[.int .u32 sum] 62):=by rw [hW];exact rB _ _
 have HC:=fA (zCv A c xs id 336 #[.pointer (yA ⟨w.heap.size,0,none⟩)] (yE func336 (by kernel_rfl) rfl) (vW sum) W (h.below hb) (zJg w.heap.size sum W (eB hg) (jA hg 0)))
 have HW:=fA hW
 clear h hg hW
 go_enter func274,ntmps274
 go_wp2_with (go_at_call 335;rw [<- HW.out];refine HC.out.mono ?_;rintro e w1 ⟨A1,c1,rfl,own1,hb1⟩)
 go_ret2
 exact ⟨A1,c1,rfl,own1.rebase hb.size,hb.trans (hb1.mono hb.size)⟩
theorem zHr (A:Option mB) (c:Nat) (xs:List Ch) (id node:Int) (w:uA) (h:vM w A c xs):iA prog 279 #[.slice A xs.length c,id,node] w (wT (tJ (xM node) xs id) w):=by
 obtain ⟨W,hW⟩:∃ W,W=w.alloc (.cells #[node] 3):=⟨_,rfl⟩
 have hb:Below w.heap.size w W:=by rw [hW];exact wA _ _
 have hg:W.heap[w.heap.size]?=yA (.cells #[node] 3):=by rw [hW];exact rB _ _
 have HC:=fA (zCv A c xs id 340 #[.pointer (yA ⟨w.heap.size,0,none⟩)] (yE func340 (by kernel_rfl) rfl) (xM node) W (h.below hb) (zFy w.heap.size node W (eB hg) (jA hg 0)))
 have HW:=fA hW
 clear h hg hW
 go_enter func279,ntmps279
 go_wp2_with (go_at_call 335;rw [<- HW.out];refine HC.out.mono ?_;rintro e w1 ⟨A1,c1,rfl,own1,hb1⟩)
 go_ret2
 exact ⟨A1,c1,rfl,own1.rebase hb.size,hb.trans (hb1.mono hb.size)⟩
def wS (xs:List Ch) (id node ver:Int):List Ch × Int:=if node<1\/16<node then ([],1) else tJ (zAX node ver) xs id
theorem zJF (A:Option mB) (c:Nat) (xs:List Ch) (id node ver:Int) (w:uA) (h:vM w A c xs):iA prog 277 #[.slice A xs.length c,id,node,ver] w (wT (wS xs id node ver) w):=by
 obtain ⟨W,hW⟩:∃ W,W=(w.alloc (.cells #[node] 3)).alloc (.cells #[ver] 3):=⟨_,rfl⟩
 have hb:Below w.heap.size w W:=by rw [hW];exact yI _ _ _
 have hg:W.heap[w.heap.size]?=yA (.cells #[node] 3):=by rw [hW];exact bG _ _ _
 have hg2:W.heap[w.heap.size+1]?=yA (.cells #[ver] 3):=by rw [hW];exact sF _ _ _
 have HC:=fA (zCv A c xs id 337 #[.pointer (yA ⟨w.heap.size,0,none⟩),.pointer (yA ⟨w.heap.size+1,0,none⟩)] (yE func337 (by kernel_rfl) rfl) (zAX node ver) W (h.below hb) (zHF w.heap.size (w.heap.size+1) node ver W (eB hg) (eB hg2) (jA hg 0) (jA hg2 0)))
 have HW:=fA hW
 clear h hg hg2
 unfold wS
 by_cases h1:node<1
 ·rw [if_pos (.inl h1)]
  go_enter func277,ntmps277
  go_wp2
  go_ret2
  rw [<- HW.out]
  exact ⟨none,0,rfl,lH.nil _ _,hb⟩
 by_cases h2:16<node
 ·rw [if_pos (.inr h2)]
  go_enter func277,ntmps277
  go_wp2
  go_ret2
  rw [<- HW.out]
  exact ⟨none,0,rfl,lH.nil _ _,hb⟩
 rw [if_neg (by omega)]
 clear hW
 go_enter func277,ntmps277
 go_wp2_with (go_at_call 335;rw [<- HW.out];refine HC.out.mono ?_;rintro e w1 ⟨A1,c1,rfl,own1,hb1⟩)
 go_ret2
 exact ⟨A1,c1,rfl,own1.rebase hb.size,hb.trans (hb1.mono hb.size)⟩
def zKA (xs:List Ch) (node:Int):List Int:=((iD xs).filter (fun c=>ctn c.2.2.2 node)).map (·.1)
theorem wI {α:Type} (p:α -> Bool) (xs:List α) {k:Nat} (hk:k<xs.length):(xs.take (k+1)).filter p=(xs.take k).filter p ++ (if p (xs[k]'hk) then [xs[k]'hk] else []):=by
 rw [List.take_succ_eq_append_getElem hk,List.filter_append]
 congr 1
 cases h:p (xs[k]'hk) <;> simp [h]
theorem zQF (A : Option mB) (c : Nat) (xs : List Ch) (node : Int) (w : uA) (h : vM w A c xs) : iA prog 268 #[.slice A xs.length c, node] w (mD 3 1 (zKA xs node).length (flat kG (zKA xs node)) w) := by
 have hmx:=h.max
 have hfl:=nS xs
 have HFA:jC (iA prog 73 #[.slice A xs.length c] w (zFC (iD xs) w)):=fA (zBv A c xs w h)
 unfold zKA
 generalize iD xs=ys at *
 clear h
 go_enter func268,ntmps268
 go_wp2_with (go_at_call 73;refine HFA.out.mono ?_;rintro e w1 ⟨A1,c1,rfl,own1,hb1⟩;have HO1:=fA (own1.in_ (by omega));have HB1:=fA hb1;clear own1 hb1)
 go_loopw [5,7,11] (fun v5 v7 i wr=>∃ (k n c:Nat) (A:Option mB),k<=ys.length/\v5=.slice A n c/\i=.int .i64 (k:Int)/\n<=ys.length/\jC (wr.ownsRow w1.heap.size 3 1 (.slice A n c) n (flat kG (((ys.take k).filter (fun c=>ctn c.2.2.2 node)).map (·.1))))/\Below w1.heap.size w1 wr) (fun _ _ i _=>ys.length - (intOf i).toNat)
 case atStart=>exact ⟨0,0,0,none,by omega,rfl,rfl,by omega,nB _ _ _ _,xC w1⟩
 case round =>
  obtain ⟨k,n,c2,A2,hk,rfl,rfl,hn,HO,hw⟩:=hrel
  have hk0:(0:Int)<=(k:Int):=by omega
  by_cases hlt:k<ys.length
  ·have hk1:(k:Int)<(ys.length:Int):=by omega
   have HF:=fA (wI (fun c:Ch=>ctn c.2.2.2 node) ys hlt)
   have hnk:n<=k:=by have:=HO.out.1;rw [vF,uO,mC,mC] at this;have:=eC (fun c:Ch=>ctn c.2.2.2 node) (ys.take k);rw [sB] at this;omega
   obtain ⟨b,off,a,cc,rfl,blt,d0,d1,d2,d3,HH⟩:=(HO1.out.below hw).cells hlt
   generalize (ys[k]'hlt)=x at *
   obtain ⟨x1,x2,x3,x4⟩:=x
   simp only at d0 d1 d2 d3 HH HF
   have HCT:jC (∀ W,Below wr.heap.size wr W -> iA prog 68 #[.slice a x4.length cc,node] W fun e w'=>e=.returned (.bool (ctn x4 node))/\Below W.heap.size W w'):=fA fun W hb=>(pQ a cc x4 node W (HH.below hb)).mono fun e w' h=>⟨h.1,by rw [h.2];exact xC _⟩
   clear HH
   have hal:=wA wr (.cells #[x1,x2,.int .u32 x3,.slice a x4.length cc] 65)
   have gX:=rB wr (.cells #[x1,x2,.int .u32 x3,.slice a x4.length cc] 65)
   have hw0:=hw.trans (hal.mono hw.size)
   cases hct:ctn x4 node with
   | false =>
    rw [hct] at HCT HF
    rw [if_neg (by decide),oF] at HF
    clear hct
    go_wp2_with (go_at_call 68;refine (HCT.out _ hal).mono ?_;rintro e w2 ⟨rfl,hb2⟩;have hb02:=hal.trans (hb2.mono hal.size);have hw2:=hw.trans (hb02.mono hw.size))
    go_roundw
    case rel=>exact ⟨k+1,n,c2,A2,by omega,rfl,by go_num,hn,fA (by rw [HF.out];exact jB HO.out hb02),hw2⟩
    case measure=>simp [intOf];omega
   | true =>
    rw [hct] at HCT HF
    rw [if_pos rfl] at HF
    clear hct
    go_wp2_with (first
     | (go_at_call 68;refine (HCT.out _ hal).mono ?_;rintro e w2 ⟨rfl,hb2⟩;have hb02:=hal.trans (hb2.mono hal.size);have hw2:=hw.trans (hb02.mono hw.size);have g2:=kA hb2 gX;obtain ⟨e0,e1,e2,e3,_,_,_,_,elt⟩:=nH g2;have HO2:=fA (jB HO.out hb02))
     | (at_builtin;refine yC rfl (.tmp 19) (.tmp 22) rfl tN w1.heap.size (.slice A2 n c2) n _ (by rfl) (jB HO2.out (wA w2 _)) (yA ⟨w2.heap.size,0,none⟩) 1 1 [.int .i64 x1] (by rfl) rfl (dC.new w2 _ _) (by simp [qE]) (by unfold fC;omega) (by omega) (pA hw2.size (wA w2 _).size) (fun h=>by cases h) ?_;intro a1 c1 w3 hown hg hat))
    have hb3:=Below.appended (hw2.trans ((wA w2 _).mono hw2.size)) (jB HO2.out (wA w2 _)) hg (pA hw2.size (wA w2 _).size) (mA _)
    go_roundw
    case rel=>exact ⟨k+1,n+1,c1,a1,by omega,rfl,by go_num,by omega,fA (by rw [HF.out,gE,uD];exact hown),hb3⟩
    case measure=>simp [intOf];omega
  have hk1:¬ (k:Int)<(ys.length:Int):=by omega
  have hke:k=ys.length:=by omega
  subst hke
  go_wp2
  go_ret
  have hO:=HO.out
  rw [zC (mA _)] at hO
  have hl:=hO.1
  rw [jD dN,vF,vF,mC] at hl
  subst hl
  exact ⟨A2,c2,rfl,oC hO HB1.out.size,HB1.out.trans (hw.mono HB1.out.size)⟩
def zIl (now:Int) (x:Le):Bool:=decide (now<=x.2.2.2.2)
def zCc (xs:List Le) (now:Int):List Le:=xs.filter (zIl now)
def zQY (xs:List Le) (w:uA) (en:Ending) (w':uA):Prop:=∃ A c B n d,en=.returned (.tuple #[.slice A xs.length c,.slice B n d])/\w'.ownsRow w.heap.size 176 5 (.slice A xs.length c) xs.length (flat vU xs)/\Below w.heap.size w w'
theorem zJU (A : Option mB) (c : Nat) (xs : List Le) (now : Int) (w : uA) (h : yB vU w A c xs) : iA prog 168 #[.slice A xs.length c, now] w (zQY (zCc xs now) w) := by
 have HI:=fA h
 have hmx:=h.max
 have hb0:=xC w
 unfold zCc
 clear h
 go_enter func168,ntmps168
 go_wp2
 go_loopw [4,5,7,10] (fun v4 v5 v7 i wr=>∃ (k n m c1 c2:Nat) (A1 A2:Option mB) (zs:List uB),k<=xs.length/\v4=.slice A1 n c1/\v5=.slice A2 m c2/\i=.int .i64 (k:Int)/\n<=k/\m<=k/\jC (n=((xs.take k).filter (zIl now)).length)/\jC (wr.ownsRow w.heap.size 176 5 (.slice A1 n c1) n (flat vU ((xs.take k).filter (zIl now))))/\jC (wr.ownsRow w.heap.size 176 5 (.slice A2 m c2) m zs)/\jC (∀ x ∈ zB A1,x ∉ zB A2)/\Below w.heap.size w wr) (fun _ _ _ i _=>xs.length - (intOf i).toNat)
 case atStart=>exact ⟨0,0,0,0,0,none,none,[],by omega,rfl,rfl,rfl,by omega,by omega,fA rfl,nB _ _ _ _,nB _ _ _ _,fA (fun x hx=>by cases hx),hb0⟩
 case round =>
  clear hb0
  obtain ⟨k,n,m,c1,c2,A1,A2,zs,hk,rfl,rfl,rfl,hn,hm,HN,HO,HZ,HAP,hw⟩:=hrel
  have hk0:(0:Int)<=(k:Int):=by omega
  by_cases hlt:k<xs.length
  ·have hk1:(k:Int)<(xs.length:Int):=by omega
   have HF:=fA (wI (zIl now) xs hlt)
   obtain ⟨b,off,rfl,blt,d0,d1,d2,d3,d4⟩:=zBd (HI.out.below hw) hlt
   generalize (xs[k]'hlt)=x at *
   obtain ⟨x1,x2,x3,x4,x5⟩:=x
   simp only at d0 d1 d2 d3 d4
   have HL:jC (zIl now (x1,x2,x3,x4,x5)=decide (now<=x5)):=fA rfl
   have hal:=wA wr (.cells #[x1,x2,x3,x4,x5] 176)
   have gX:=rB wr (.cells #[x1,x2,x3,x4,x5] 176)
   have hw0:=hw.trans (hal.mono hw.size)
   have e0:(wr.alloc (.cells #[x1,x2,x3,x4,x5] 176)).cell? ⟨wr.heap.size,0,none⟩=yA (.int .i64 x1):=jA gX 0
   have e1:(wr.alloc (.cells #[x1,x2,x3,x4,x5] 176)).cell? ⟨wr.heap.size,1,none⟩=yA (.int .i64 x2):=jA gX 1
   have e2:(wr.alloc (.cells #[x1,x2,x3,x4,x5] 176)).cell? ⟨wr.heap.size,2,none⟩=yA (.int .i64 x3):=jA gX 2
   have e3:(wr.alloc (.cells #[x1,x2,x3,x4,x5] 176)).cell? ⟨wr.heap.size,3,none⟩=yA (.int .i64 x4):=jA gX 3
   have e4:(wr.alloc (.cells #[x1,x2,x3,x4,x5] 176)).cell? ⟨wr.heap.size,4,none⟩=yA (.int .i64 x5):=jA gX 4
   have hxl:=eB gX
   have HO2:=fA (jB HO.out hal)
   have HZ2:=fA (jB HZ.out hal)
   by_cases hct:x5<now
   ·rw [HL.out,decide_eq_false (by omega),if_neg (by decide),oF] at HF
    go_upto_region 4 with fail
    generalize wr.alloc (.cells #[x1,x2,x3,x4,x5] 176)=W2 at *
    go_wp2_with (at_builtin;refine yC rfl (.tmp 18) (.tmp 20) rfl zAe w.heap.size (.slice A2 m c2) m _ (by rfl) (jB HZ2.out (wA W2 _)) (yA ⟨W2.heap.size,0,none⟩) 1 1 [.int .i64 x1,.int .i64 x2,.int .i64 x3,.int .i64 x4,.int .i64 x5] (by rfl) rfl (dC.new W2 _ _) (by simp [qE]) (by unfold fC;omega) (by omega) (pA hw0.size (wA W2 _).size) (fun h=>by cases h) ?_;intro aN cN w3 hown hg hat)
    have hb3:=Below.appended (hw0.trans ((wA W2 _).mono hw0.size)) (jB HZ2.out (wA W2 _)) hg (pA hw0.size (wA W2 _).size) (mA _)
    have hch:=tE hg
    have hatt:=wF hat
    have hap2:∀ x ∈ zB A1,x ∉ zB aN:=fun x hx hx2=>by
     rcases hatt x hx2 with q | q
     ·exact HAP.out x hx q
     ·have:=(qC HO2.out x hx).2;have:=(wA W2 (.cells #[x1,x2,x3,x4,x5] 176)).size;simp at q;omega
    have hO3:=xE (jB HO2.out (wA W2 (.cells #[x1,x2,x3,x4,x5] 176))) hch (fun x hx=>HAP.out x hx)
    go_wp2
    go_roundw
    case rel=>exact ⟨k+1,n,m+1,c1,cN,A1,aN,_,by omega,rfl,rfl,by go_num,by omega,by omega,fA (by rw [HF.out];exact HN.out),fA (by rw [HF.out];exact hO3),fA hown,fA hap2,hb3⟩
    case measure=>simp [intOf];omega
   ·rw [HL.out,decide_eq_true (by omega),if_pos rfl] at HF
    go_upto_region 4 with fail
    generalize wr.alloc (.cells #[x1,x2,x3,x4,x5] 176)=W2 at *
    go_wp2_with (at_builtin;refine yC rfl (.tmp 22) (.tmp 24) rfl zAe w.heap.size (.slice A1 n c1) n _ (by rfl) (jB HO2.out (wA W2 _)) (yA ⟨W2.heap.size,0,none⟩) 1 1 [.int .i64 x1,.int .i64 x2,.int .i64 x3,.int .i64 x4,.int .i64 x5] (by rfl) rfl (dC.new W2 _ _) (by simp [qE]) (by unfold fC;omega) (by omega) (pA hw0.size (wA W2 _).size) (fun h=>by cases h) ?_;intro aN cN w3 hown hg hat)
    have hb3:=Below.appended (hw0.trans ((wA W2 _).mono hw0.size)) (jB HO2.out (wA W2 _)) hg (pA hw0.size (wA W2 _).size) (mA _)
    have hch:=tE hg
    have hatt:=wF hat
    have hap2:∀ x ∈ zB aN,x ∉ zB A2:=fun x hx hx2=>by
     rcases hatt x hx with q | q
     ·exact HAP.out x q hx2
     ·have:=(qC HZ2.out x hx2).2;have:=(wA W2 (.cells #[x1,x2,x3,x4,x5] 176)).size;simp at q;omega
    have hZ3:=xE (jB HZ2.out (wA W2 (.cells #[x1,x2,x3,x4,x5] 176))) hch (fun x hx hx2=>HAP.out x hx2 hx)
    go_wp2
    go_roundw
    case rel=>exact ⟨k+1,n+1,m,cN,c2,aN,A2,_,by omega,rfl,rfl,by go_num,by omega,by omega,fA (by rw [HF.out,kB,<- HN.out];rfl),fA (by rw [HF.out,uD];exact hown),fA hZ3,fA hap2,hb3⟩
    case measure=>simp [intOf];omega
  have hk1:¬ (k:Int)<(xs.length:Int):=by omega
  have hke:k=xs.length:=by omega
  subst hke
  go_wp2
  go_ret2
  have hO:=HO.out
  have hN:=HN.out
  rw [zC (mA _)] at hO hN
  subst hN
  exact ⟨A1,c1,A2,m,c2,rfl,hO,hw⟩
def vS {α:Type} (Q:Nat -> Prop) (enc:α -> List uB) (w:uA) (A:Option mB) (c:Nat) (xs:List α):Prop:=yB enc w A c xs/\∀ x ∈ zB A,Q x
def zCj (Q:Nat -> Prop) (w:uA) (A:Option mB) (c:Nat) (xs:List Ch):Prop:=∃ ps:List (Option mB × Nat),ps.length=xs.length/\yB zDJ w A c (bF xs ps)/\(∀ (i:Nat) (x:Ch) (a:Option mB × Nat),xs[i]?=yA x -> ps[i]?=yA a -> yB kG w a.1 a.2 x.2.2.2/\∀ y ∈ zB a.1,Q y)/\∀ x ∈ zB A,Q x
theorem yB.chg {α:Type} {enc:α -> List uB} {S:List Nat} {w w':uA} {A:Option mB} {c:Nat} {xs:List α} (h:yB enc w A c xs) (hc:fD S w w') (hne:∀ x ∈ zB A,x ∉ S):yB enc w' A c xs:=⟨h.row.chg hc hne,h.cap,h.none_,h.max⟩
section
variable {α:Type} {enc:α -> List uB} {Q Q':Nat -> Prop} {S:List Nat} {w w':uA} {A:Option mB} {c:Nat} {xs:List α} {cs:List Ch}
theorem vS.chg (h:vS Q enc w A c xs) (hc:fD S w w') (hQ:∀ x,Q x -> x ∉ S):vS Q enc w' A c xs:=⟨h.1.chg hc fun x hx=>hQ x (h.2 x hx),h.2⟩
theorem vS.below (h:vS Q enc w A c xs) (hb:Below w.heap.size w w'):vS Q enc w' A c xs:=⟨h.1.below hb,h.2⟩
theorem vS.mono (h:vS Q enc w A c xs) (hQ:∀ x,Q x -> Q' x):vS Q' enc w A c xs:=⟨h.1,fun x hx=>hQ x (h.2 x hx)⟩
theorem vS.of_own {base k:Nat} {e:tC} (h:w.ownsRow base e k (.slice A xs.length c) xs.length (flat enc xs)) (hm:xs.length<=1000000):vS (fun x=>base<=x/\x<w.heap.size) enc w A c xs:=⟨yB.of_own h hm,fun x hx=>qC h x hx⟩
theorem zCj.in_ (h:zCj Q w A c cs):vM w A c cs:=by
 obtain ⟨ps,h1,h2,h3,h4⟩:=h
 exact ⟨ps,h1,h2,fun i x a p q=>(h3 i x a p q).1⟩
theorem zCj.chg (h:zCj Q w A c cs) (hc:fD S w w') (hQ:∀ x,Q x -> x ∉ S):zCj Q w' A c cs:=by
 obtain ⟨ps,h1,h2,h3,h4⟩:=h
 exact ⟨ps,h1,h2.chg hc fun x hx=>hQ x (h4 x hx),fun i x a p q=>⟨(h3 i x a p q).1.chg hc fun y hy=>hQ y ((h3 i x a p q).2 y hy),(h3 i x a p q).2⟩,h4⟩
theorem zCj.below (h:zCj Q w A c cs) (hb:Below w.heap.size w w'):zCj Q w' A c cs:=by
 obtain ⟨ps,h1,h2,h3,h4⟩:=h
 exact ⟨ps,h1,h2.below hb,fun i x a p q=>⟨(h3 i x a p q).1.below hb,(h3 i x a p q).2⟩,h4⟩
theorem zCj.mono (h:zCj Q w A c cs) (hQ:∀ x,Q x -> Q' x):zCj Q' w A c cs:=by
 obtain ⟨ps,h1,h2,h3,h4⟩:=h
 exact ⟨ps,h1,h2,fun i x a p q=>⟨(h3 i x a p q).1,fun y hy=>hQ y ((h3 i x a p q).2 y hy)⟩,fun x hx=>hQ x (h4 x hx)⟩
theorem lH.q {base:Nat} (h:lH w base A c cs) (hm:cs.length<=1000000):zCj (fun x=>base<=x/\x<w.heap.size) w A c cs:=by
 obtain ⟨ps,h⟩:=h
 have hl:=vJ h.len
 refine ⟨ps,h.len,?_,fun i x a p q=>⟨yB.of_own (h.hold i x a p q).1 (h.hold i x a p q).2,fun y hy=>qC (h.hold i x a p q).1 y hy⟩,fun x hx=>qC h.row x hx⟩
 have:=h.row
 rw [<- hl] at this
 exact yB.of_own this (by omega)
def rQ (Q:Nat -> Prop) (enc:α -> List uB) (w:uA) (A:Option mB) (c:Nat) (xs:List α):Prop:=vS (fun x=>Q x/\x<w.heap.size) enc w A c xs
def zBU (Q:Nat -> Prop) (w:uA) (A:Option mB) (c:Nat) (xs:List Ch):Prop:=zCj (fun x=>Q x/\x<w.heap.size) w A c xs
theorem rQ.chg (h:rQ Q enc w A c xs) (hc:fD S w w') (hQ:∀ x,Q x -> x ∉ S):rQ Q enc w' A c xs:=(vS.chg h hc fun x hx=>hQ x hx.1).mono fun x hx=>⟨hx.1,tA hx.2 hc.size⟩
theorem rQ.below (h:rQ Q enc w A c xs) (hb:Below w.heap.size w w'):rQ Q enc w' A c xs:=(vS.below h hb).mono fun x hx=>⟨hx.1,tA hx.2 hb.size⟩
theorem rQ.mono (h:rQ Q enc w A c xs) (hQ:∀ x,Q x -> Q' x):rQ Q' enc w A c xs:=vS.mono h fun x hx=>⟨hQ x hx.1,hx.2⟩
theorem rQ.of_own {base k:Nat} {e:tC} (h:w.ownsRow base e k (.slice A xs.length c) xs.length (flat enc xs)) (hm:xs.length<=1000000) (hQ:∀ x,base<=x -> Q x):rQ Q enc w A c xs:=(vS.of_own h hm).mono fun x hx=>⟨hQ x hx.1,hx.2⟩
theorem zBU.in_ (h:zBU Q w A c cs):vM w A c cs:=zCj.in_ h
theorem zBU.chg (h:zBU Q w A c cs) (hc:fD S w w') (hQ:∀ x,Q x -> x ∉ S):zBU Q w' A c cs:=(zCj.chg h hc fun x hx=>hQ x hx.1).mono fun x hx=>⟨hx.1,tA hx.2 hc.size⟩
theorem zBU.below (h:zBU Q w A c cs) (hb:Below w.heap.size w w'):zBU Q w' A c cs:=(zCj.below h hb).mono fun x hx=>⟨hx.1,tA hx.2 hb.size⟩
theorem zBU.mono (h:zBU Q w A c cs) (hQ:∀ x,Q x -> Q' x):zBU Q' w A c cs:=zCj.mono h fun x hx=>⟨hQ x hx.1,hx.2⟩
end
theorem zBC:∀ (xs:List Nd) (l:Int),jH l xs=true -> xs.length=0\/(xs.length:Int)<=16 - l
 | [],_,_=>.inl rfl
 | x :: xs, l, h => by
  simp only [jH,Bool.and_eq_true,decide_eq_true_eq,fZ,btw] at h
  rcases zBC xs x.1 h.2 with q | q
  ·right;simp only [qD,q];omega
  ·right;simp only [qD];omega
def jN {α:Type} (e:Int) (x y:α):α:=if e=0 then x else y
structure zFA (Q:Nat -> Prop) (w:uA) (D:Nat) (ns:List Nd) (cs:List Ch) (e n:Int):Prop where
 ex:∃ A c B d,w.heap[D]?=yA (.cells #[.slice A ns.length c,.slice B cs.length d,.slice none 0 0,e,n] 289)/\rQ Q qH w A c ns/\zBU Q w B d cs
theorem kN {w:uA} {F:Nat} {c0 c1 c2 c3 c4:uB} {t:tC} (h:w.heap[F]?=yA (.cells #[c0,c1,c2,c3,c4] t)):w.cell? ⟨F,0,none⟩=yA c0/\w.cell? ⟨F,1,none⟩=yA c1/\w.cell? ⟨F,2,none⟩=yA c2/\w.cell? ⟨F,3,none⟩=yA c3/\w.cell? ⟨F,4,none⟩=yA c4/\w.frozen? ⟨F,0,none⟩=false/\w.frozen? ⟨F,1,none⟩=false/\w.frozen? ⟨F,3,none⟩=false/\w.frozen? ⟨F,4,none⟩=false/\F<w.heap.size :=
 ⟨jA h 0,jA h 1,jA h 2,jA h 3,jA h 4,qB h 0,qB h 1,qB h 3,qB h 4,eB h⟩
theorem zAv {w:uA} {F:Nat} {c0 c1 c2 c3 c4 c5:uB} {t:tC} (h:w.heap[F]?=yA (.cells #[c0,c1,c2,c3,c4,c5] t)):w.cell? ⟨F,0,none⟩=yA c0/\w.cell? ⟨F,1,none⟩=yA c1/\w.cell? ⟨F,2,none⟩=yA c2/\w.cell? ⟨F,3,none⟩=yA c3/\w.cell? ⟨F,4,none⟩=yA c4/\w.cell? ⟨F,5,none⟩=yA c5/\F<w.heap.size :=
 ⟨jA h 0,jA h 1,jA h 2,jA h 3,jA h 4,jA h 5,eB h⟩
theorem zBm {D:Nat} {v0 v1 v2 v4:uB} {w:uA} (A:Option mB) (n c:Nat) (e:Int) (hD:w.heap[D]?=yA (.cells #[v0,v1,v2,.int .i64 0,v4] 289)):iA prog 265 #[(D,0),.slice A n c,e] w fun en w'=>en=.returned (.tuple #[])/\fD [D] w w'/\w'.heap[D]?=yA (.cells #[jN e (.slice A n c) v0,v1,v2,e,v4] 289):=by
 obtain ⟨m0,m1,m2,m3,m4,f0,f1,f3,f4,mlt⟩:=kN hD
 have g1:(w.setCell ⟨D,3,none⟩ (.int .i64 e)).heap[D]?=yA (.cells #[v0,v1,v2,e,v4] 289):=by simpa using zD (i:=3) hD (.int .i64 e)
 have g2:((w.setCell ⟨D,3,none⟩ (.int .i64 e)).setCell ⟨D,0,none⟩ (.slice A n c)).heap[D]?=yA (.cells #[.slice A n c,v1,v2,e,v4] 289):=by simpa using zD (i:=0) g1 (.slice A n c)
 have k1:fD [D] w (w.setCell ⟨D,3,none⟩ (.int .i64 e)):=(fD.refl _ w).setCell (.inl (by simp)) _ _
 have k2:fD [D] w ((w.setCell ⟨D,3,none⟩ (.int .i64 e)).setCell ⟨D,0,none⟩ (.slice A n c)):=k1.setCell (.inl (by simp)) _ _
 have G1:=fA g1
 have G2:=fA g2
 clear g1 g2 hD
 by_cases he:e=0
 ·subst he
  go_enter func265,ntmps265
  go_wp2
  refine dF (dE rfl _ _ _) rfl ?_
  exact ⟨rfl,k2,by rw [jN,if_pos rfl];exact G2.out⟩
 ·go_enter func265,ntmps265
  go_wp2
  refine dF (dE rfl _ _ _) rfl ?_
  exact ⟨rfl,k1,by rw [jN,if_neg he];exact G1.out⟩
theorem zCw {D:Nat} {v0 v1 v2 v4:uB} {w:uA} (A:Option mB) (n c:Nat) (e:Int) (hD:w.heap[D]?=yA (.cells #[v0,v1,v2,.int .i64 0,v4] 289)):iA prog 276 #[(D,0),.slice A n c,e] w fun en w'=>en=.returned (.tuple #[])/\fD [D] w w'/\w'.heap[D]?=yA (.cells #[v0,jN e (.slice A n c) v1,v2,e,v4] 289):=by
 obtain ⟨m0,m1,m2,m3,m4,f0,f1,f3,f4,mlt⟩:=kN hD
 have g1:(w.setCell ⟨D,3,none⟩ (.int .i64 e)).heap[D]?=yA (.cells #[v0,v1,v2,e,v4] 289):=by simpa using zD (i:=3) hD (.int .i64 e)
 have g2:((w.setCell ⟨D,3,none⟩ (.int .i64 e)).setCell ⟨D,1,none⟩ (.slice A n c)).heap[D]?=yA (.cells #[v0,.slice A n c,v2,e,v4] 289):=by simpa using zD (i:=1) g1 (.slice A n c)
 have k1:fD [D] w (w.setCell ⟨D,3,none⟩ (.int .i64 e)):=(fD.refl _ w).setCell (.inl (by simp)) _ _
 have k2:fD [D] w ((w.setCell ⟨D,3,none⟩ (.int .i64 e)).setCell ⟨D,1,none⟩ (.slice A n c)):=k1.setCell (.inl (by simp)) _ _
 have G1:=fA g1
 have G2:=fA g2
 clear g1 g2 hD
 by_cases he:e=0
 ·subst he
  go_enter func276,ntmps276
  go_wp2
  refine dF (dE rfl _ _ _) rfl ?_
  exact ⟨rfl,k2,by rw [jN,if_pos rfl];exact G2.out⟩
 ·go_enter func276,ntmps276
  go_wp2
  refine dF (dE rfl _ _ _) rfl ?_
  exact ⟨rfl,k1,by rw [jN,if_neg he];exact G1.out⟩
section
variable {Q:Nat -> Prop} {w w2 w3:uA} {D base:Nat} {A B A2:Option mB} {c d c2:Nat} {ns:List Nd} {cs:List Ch} {n:Int}
theorem zJM {r:List Nd × Int} (hA:rQ Q qH w A c ns) (hB:zBU Q w B d cs) (hb:Below w.heap.size w w2) (ho:w2.ownsRow base 207 4 (.slice A2 r.1.length c2) r.1.length (flat qH r.1)) (hbase:w.heap.size<=base) (hm:r.1.length<=1000000) (hc:fD [D] w2 w3) (hD:w3.heap[D]?=yA (.cells #[jN r.2 (.slice A2 r.1.length c2) (.slice A ns.length c),.slice B cs.length d,.slice none 0 0,r.2,n] 289)) (hQD:∀ x,Q x -> x≠D) (hQn:∀ x,w.heap.size<=x -> Q x):zFA Q w3 D (jN r.2 r.1 ns) cs r.2 n:=by
 have hq:∀ x,Q x -> x ∉ [D]:=fun x hx hc=>hQD x hx (by simpa using hc)
 by_cases he:r.2=0
 ·rw [jN,if_pos he] at hD
  rw [jN,if_pos he]
  have f:rQ Q qH w2 A2 c2 r.1:=rQ.of_own ho hm fun x hx=>hQn x (by omega)
  exact ⟨A2,c2,B,d,hD,f.chg hc hq,(hB.below hb).chg hc hq⟩
 ·rw [jN,if_neg he] at hD
  rw [jN,if_neg he]
  exact ⟨A,c,B,d,hD,(hA.below hb).chg hc hq,(hB.below hb).chg hc hq⟩
theorem zJL {r:List Ch × Int} (hA:rQ Q qH w A c ns) (hB:zBU Q w B d cs) (hb:Below w.heap.size w w2) (ho:lH w2 base A2 c2 r.1) (hbase:w.heap.size<=base) (hm:r.1.length<=1000000) (hc:fD [D] w2 w3) (hD:w3.heap[D]?=yA (.cells #[.slice A ns.length c,jN r.2 (.slice A2 r.1.length c2) (.slice B cs.length d),.slice none 0 0,r.2,n] 289)) (hQD:∀ x,Q x -> x≠D) (hQn:∀ x,w.heap.size<=x -> Q x):zFA Q w3 D ns (jN r.2 r.1 cs) r.2 n:=by
 have hq:∀ x,Q x -> x ∉ [D]:=fun x hx hc=>hQD x hx (by simpa using hc)
 by_cases he:r.2=0
 ·rw [jN,if_pos he] at hD
  rw [jN,if_pos he]
  have f:zBU Q w2 A2 c2 r.1:=(ho.q hm).mono fun x hx=>⟨hQn x (by omega),hx.2⟩
  exact ⟨A,c,A2,c2,hD,(hA.below hb).chg hc hq,f.chg hc hq⟩
 ·rw [jN,if_neg he] at hD
  rw [jN,if_neg he]
  exact ⟨A,c,B,d,hD,(hA.below hb).chg hc hq,(hB.below hb).chg hc hq⟩
end
abbrev Dr:=List Nd × List Ch × Int × Int
def zRs (ns:List Nd) (cs:List Ch) (a b c:Int):Dr:=(jN (addN ns (a,b,c,0)).2 (addN ns (a,b,c,0)).1 ns,cs,(addN ns (a,b,c,0)).2,0)
def zGD (Q:Nat -> Prop) (D:Nat) (r:Dr) (w:uA) (en:Ending) (w':uA):Prop:=en=.returned (.tuple #[])/\zFA Q w' D r.1 r.2.1 r.2.2.1 r.2.2.2/\fD [D] w w'
theorem zNy (xs:List Nd) (x:Nd):(addN xs x).1.length<=xs.length+1:=by
 have:=sV xs
 unfold addN
 split
 ·simp
 ·split
  ·simp
  ·simp only [kB,sB,List.length_drop,List.length_singleton];omega
theorem zNH (Q:Nat -> Prop) (D:Nat) (ns:List Nd) (cs:List Ch) (x1 x2 x3 a b c:Int) (w:uA) (h:zFA Q w D ns cs 0 0) (hQD:∀ x,Q x -> x≠D) (hQn:∀ x,w.heap.size<=x -> Q x) (hs:ns.length<1000000):iA prog 264 #[.pointer (yA ⟨D,0,none⟩),.agg #[x1,x2,x3,a,b,c]] w (zGD Q D (zRs ns cs a b c) w):=by
 obtain ⟨A,cA,B,d,hD,hA,hB⟩:=h.ex
 have hln:=zNy ns (a,b,c,0)
 have hal:=wA w (.cells #[x1,x2,x3,a,b,c] 99)
 have g0:=kA hal hD
 obtain ⟨c0,c1,c2,c3,c4,f0,f1,f3,f4,hlt⟩:=kN g0
 obtain ⟨e0,e1,e2,e3,e4,e5,elt⟩:=zAv (rB w (.cells #[x1,x2,x3,a,b,c] 99))
 have HAD:jC (∀ W,Below w.heap.size w W -> iA prog 266 #[.slice A ns.length cA,.agg #[a,b,c,.int .i64 0]] W (zKV (addN ns (a,b,c,0)) W)):=fA fun W hb=>zNx A cA ns a b c 0 W (hA.1.below hb) hs
 unfold zRs
 generalize addN ns (a,b,c,0)=r at *
 have HA:=fA hA
 have HB:=fA hB
 have HG:=fA g0
 clear hA hB h hD g0
 go_enter func264,ntmps264
 go_wp2_with fail
 generalize hW:w.alloc (.cells #[x1,x2,x3,a,b,c] 99)=W at *
 clear hW
 go_region_law (first
  | (go_simp;go_at_call 266;refine (HAD.out _ hal.drew).mono ?_;rintro e w2 ⟨A2,c2',rfl,own2,hb2⟩;have g2:=kA hb2 (iB HG.out);have hw2:=hal.drew.trans (hb2.mono hal.size);have HO2:=fA own2;clear own2;(try go_simp))
  | (go_simp;go_at_call 265;refine (zBm A2 _ c2' r.2 g2).mono ?_;rintro e w3 ⟨rfl,hc3,g3⟩;(try go_simp)))
 all_goals (
  refine dF (dE rfl _ _ _) rfl ?_
  exact ⟨rfl,zJM HA.out HB.out hw2 HO2.out hal.size (by omega) hc3 g3 hQD hQn,fD.pre hw2 hc3⟩)
def kF (xs:List Ld) (node:Int):Int:=if bE (fun x:Ld=>decide (x.1=node)) xs 0<0 then 0 else (xs.getD (bE (fun x:Ld=>decide (x.1=node)) xs 0).toNat (0,0)).2
theorem zMq (C:Nat) (t:Int) (w:uA) (hl:C<w.heap.size) (hc:w.cell? ⟨C,0,none⟩=yA (.int .i64 t)):yR 212 #[(C,0)] (fun x:Ld=>vE (zV x).toArray) (fun x:Ld=>decide (x.1=t)) w:=by
 rintro W ⟨x1,x2⟩ hW
 have hal:=wA W (.cells #[x1,x2] 202)
 have hcW:=((bcell hW).1 C 0 hl).trans hc
 have hlW:=tA hl hW.size
 show iA prog 212 #[.agg #[x1,x2],.pointer (yA ⟨C,0,none⟩)] W fun e w'=>e=.returned (.bool (decide (x1=t)))/\Below W.heap.size W w'
 by_cases h:x1=t
 ·subst h
  go_enter func212,ntmps212
  go_wp2
  go_ret
  exact ⟨bC (by simp),hal⟩
 ·go_enter func212,ntmps212
  go_wp2
  go_ret
  exact ⟨bC (by simp [h]),hal⟩
theorem eQ (A:Option mB) (c:Nat) (xs:List Ld) (node:Int) (w:uA) (h:yB zV w A c xs):iA prog 125 #[.slice A xs.length c,node] w fun e w'=>e=.returned (.int .i64 (kF xs node))/\Below w.heap.size w w':=by
 have hmx:=h.max
 obtain ⟨W,hW⟩:∃ W,W=w.alloc (.cells #[node] 3):=⟨_,rfl⟩
 have hb:Below w.heap.size w W:=by rw [hW];exact wA _ _
 have hg:W.heap[w.heap.size]?=yA (.cells #[node] 3):=by rw [hW];exact rB _ _
 have HIX:=fA (zKd A c xs 212 #[.pointer (yA ⟨w.heap.size,0,none⟩)] (yE func212 (by kernel_rfl) rfl) (fun x:Ld=>decide (x.1=node)) W (h.below hb) (zMq w.heap.size node W (eB hg) (jA hg 0)))
 have HI:=fA h
 have HW:=fA hW
 have hcs:=fM (fun x:Ld=>decide (x.1=node)) xs 0
 unfold kF
 clear h hg hW
 generalize bE (fun x:Ld=>decide (x.1=node)) xs 0=v at *
 rcases hcs with ⟨rfl,_⟩ | ⟨k,hk,hv,_,_⟩
 ·rw [if_pos (by decide)]
  go_enter func125,ntmps125
  go_wp2_with (go_at_call 211;rw [<- HW.out];refine HIX.out.mono ?_;rintro e w1 ⟨rfl,hb1⟩)
  go_ret
  exact ⟨rfl,hb.trans (hb1.mono hb.size)⟩
 ·rw [Nat.zero_add] at hv
  subst hv
  have hk0:(0:Int)<=(k:Int):=by omega
  have hk1:(k:Int)<(xs.length:Int):=by omega
  rw [if_neg (by omega),Int.toNat_natCast,List.getD_eq_getElem?_getD,List.getElem?_eq_getElem hk,Option.getD_some]
  have HC:=fA (fun (W':uA) (hW':Below w.heap.size w W')=>zCZ (HI.out.below hW') hk)
  generalize (xs[k]'hk)=x at *
  obtain ⟨x1,x2⟩:=x
  simp only
  go_enter func125,ntmps125
  go_wp2_with (go_at_call 211;rw [<- HW.out];refine HIX.out.mono ?_;rintro e w1 ⟨rfl,hb1⟩;have hw1:=hb.trans (hb1.mono hb.size);obtain ⟨b,off,rfl,blt,c0,c1⟩:=HC.out w1 hw1)
  go_ret
  exact ⟨rfl,hw1⟩
def zJG (xs:List Ch) (id:Int):Nat:=(xs.filter (fun c=>ctn c.2.2.2 id)).length
theorem zLK (A : Option mB) (c : Nat) (xs : List Ch) (id : Int) (w : uA) (h : vM w A c xs) : iA prog 127 #[.slice A xs.length c, id] w fun e w' => e = .returned (.int .i64 (zJG xs id : Int)) /\ Below w.heap.size w w' := by
 have HI:=fA h
 have hmx:=h.max
 have hb0:=xC w
 unfold zJG
 clear h
 go_enter func127,ntmps127
 go_wp2
 go_loopw [5,7,10] (fun v5 v7 i wr=>∃ (k n:Nat),k<=xs.length/\v5=.int .i64 (n:Int)/\i=.int .i64 (k:Int)/\n<=k/\jC (n=((xs.take k).filter (fun c:Ch=>ctn c.2.2.2 id)).length)/\Below w.heap.size w wr) (fun _ _ i _=>xs.length - (intOf i).toNat)
 case atStart=>exact ⟨0,0,by omega,rfl,rfl,by omega,fA rfl,hb0⟩
 case round =>
  clear hb0
  obtain ⟨k,n,hk,rfl,rfl,hn,HN,hw⟩:=hrel
  have hk0:(0:Int)<=(k:Int):=by omega
  by_cases hlt:k<xs.length
  ·have hk1:(k:Int)<(xs.length:Int):=by omega
   have HF:=fA (wI (fun c:Ch=>ctn c.2.2.2 id) xs hlt)
   obtain ⟨b,off,a,cc,rfl,blt,d0,d1,d2,d3,HH⟩:=(HI.out.below hw).cells hlt
   generalize (xs[k]'hlt)=x at *
   obtain ⟨x1,x2,x3,x4⟩:=x
   simp only at d0 d1 d2 d3 HH HF
   have HCT:jC (∀ W,Below wr.heap.size wr W -> iA prog 68 #[.slice a x4.length cc,id] W fun e w'=>e=.returned (.bool (ctn x4 id))/\Below W.heap.size W w'):=fA fun W hb=>(pQ a cc x4 id W (HH.below hb)).mono fun e w' h=>⟨h.1,by rw [h.2];exact xC _⟩
   clear HH
   have hal:=wA wr (.cells #[x1,x2,.int .u32 x3,.slice a x4.length cc] 65)
   have gX:=rB wr (.cells #[x1,x2,.int .u32 x3,.slice a x4.length cc] 65)
   cases hct:ctn x4 id with
   | false =>
    rw [hct] at HCT HF
    rw [if_neg (by decide),oF] at HF
    clear hct
    go_wp2_with (go_at_call 68;refine (HCT.out _ hal).mono ?_;rintro e w2 ⟨rfl,hb2⟩;have hb02:=hal.trans (hb2.mono hal.size);have hw2:=hw.trans (hb02.mono hw.size))
    go_roundw
    case rel=>exact ⟨k+1,n,by omega,rfl,by go_num,by omega,fA (by rw [HF.out];exact HN.out),hw2⟩
    case measure=>simp [intOf];omega
   | true =>
    rw [hct] at HCT HF
    rw [if_pos rfl] at HF
    clear hct
    go_wp2_with (go_at_call 68;refine (HCT.out _ hal).mono ?_;rintro e w2 ⟨rfl,hb2⟩;have hb02:=hal.trans (hb2.mono hal.size);have hw2:=hw.trans (hb02.mono hw.size))
    go_roundw
    case rel=>exact ⟨k+1,n+1,by omega,by go_num,by go_num,by omega,fA (by rw [HF.out,kB,<- HN.out];rfl),hw2⟩
    case measure=>simp [intOf];omega
  have hk1:¬ (k:Int)<(xs.length:Int):=by omega
  have hke:k=xs.length:=by omega
  subst hke
  go_wp2
  go_ret
  have:=HN.out
  rw [zC (mA _)] at this
  exact ⟨by rw [<- this];rfl,hw⟩
def lkey (t tn:Int) (x:Le):Bool:=decide (x.1=t) && decide (x.2.2.2.1=tn)
theorem zJV (C D:Nat) (t tn:Int) (w:uA) (hl:C<w.heap.size) (hc:w.cell? ⟨C,0,none⟩=yA (.int .i64 t)) (hl2:D<w.heap.size) (hc2:w.cell? ⟨D,0,none⟩=yA (.int .i64 tn)):yR 327 #[(C,0),(D,0)] (fun x:Le=>vE (vU x).toArray) (lkey t tn) w:=by
 rintro W ⟨x1,x2,x3,x4,x5⟩ hW
 have hal:=wA W (.cells #[x1,x2,x3,x4,x5] 176)
 have hcW:=((bcell hW).1 C 0 hl).trans hc
 have hlW:=tA hl hW.size
 have hcW2:=((bcell hW).1 D 0 hl2).trans hc2
 have hlW2:=tA hl2 hW.size
 show iA prog 327 #[.agg #[x1,x2,x3,x4,x5],.pointer (yA ⟨C,0,none⟩),.pointer (yA ⟨D,0,none⟩)] W fun e w'=>e=.returned (.bool (decide (x1=t) && decide (x4=tn)))/\Below W.heap.size W w'
 by_cases h:x1=t
 ·subst h
  by_cases h2:x4=tn
  ·subst h2
   go_enter func327,ntmps327
   go_wp2
   go_ret
   exact ⟨bC (by simp),hal⟩
  ·go_enter func327,ntmps327
   go_wp2
   go_ret
   exact ⟨bC (by simp [h2]),hal⟩
 ·go_enter func327,ntmps327
  go_wp2
  go_ret
  exact ⟨bC (by simp [h]),hal⟩
theorem zFV (A:Option mB) (c:Nat) (xs:List Le) (t tn:Int) (w:uA) (h:yB vU w A c xs):iA prog 257 #[.slice A xs.length c,t,tn] w fun e w'=>e=.returned (.int .i64 (bE (lkey t tn) xs 0))/\Below w.heap.size w w':=by
 obtain ⟨W,hW⟩:∃ W,W=(w.alloc (.cells #[t] 3)).alloc (.cells #[tn] 3):=⟨_,rfl⟩
 have hb:Below w.heap.size w W:=by rw [hW];exact yI _ _ _
 have hg:W.heap[w.heap.size]?=yA (.cells #[t] 3):=by rw [hW];exact bG _ _ _
 have hg2:W.heap[w.heap.size+1]?=yA (.cells #[tn] 3):=by rw [hW];exact sF _ _ _
 have HIX:=fA (zKe A c xs 327 #[.pointer (yA ⟨w.heap.size,0,none⟩),.pointer (yA ⟨w.heap.size+1,0,none⟩)] (yE func327 (by kernel_rfl) rfl) (lkey t tn) W (h.below hb) (zJV w.heap.size (w.heap.size+1) t tn W (eB hg) (jA hg 0) (eB hg2) (jA hg2 0)))
 have HW:=fA hW
 clear h hg hg2 hW
 generalize bE (lkey t tn) xs 0=v at *
 go_enter func257,ntmps257
 go_wp2_with (go_at_call 326;rw [<- HW.out];refine HIX.out.mono ?_;rintro e w1 ⟨rfl,hb1⟩)
 go_ret
 exact ⟨rfl,hb.trans (hb1.mono hb.size)⟩
def iM (xs:List Od) (t:Int):List Int:=(xs.filter (fun x=>decide (x.2.1=t))).map (fun x=>x.2.2.2.2.2.1)
theorem zIe (A : Option mB) (c : Nat) (xs : List Od) (t : Int) (w : uA) (h : yB qL w A c xs) : iA prog 171 #[.slice A xs.length c, t] w (mD 3 1 (iM xs t).length (flat kG (iM xs t)) w) := by
 have HI:=fA h
 have hmx:=h.max
 have hb0:=xC w
 clear h
 unfold iM
 go_enter func171,ntmps171
 go_wp2
 go_loopw [5,7,10] (fun v5 v7 i wr=>∃ (k n c:Nat) (A:Option mB),k<=xs.length/\v5=.slice A n c/\i=.int .i64 (k:Int)/\n<=xs.length/\jC (wr.ownsRow w.heap.size 3 1 (.slice A n c) n (flat kG (((xs.take k).filter (fun x=>decide (x.2.1=t))).map (fun x=>x.2.2.2.2.2.1))))/\Below w.heap.size w wr) (fun _ _ i _=>xs.length - (intOf i).toNat)
 case atStart=>exact ⟨0,0,0,none,by omega,rfl,rfl,by omega,nB _ _ _ _,hb0⟩
 case round =>
  clear hb0
  obtain ⟨k,n,c2,A2,hk,rfl,rfl,hn,HO,hw⟩:=hrel
  have hk0:(0:Int)<=(k:Int):=by omega
  by_cases hlt:k<xs.length
  ·have hk1:(k:Int)<(xs.length:Int):=by omega
   have HF:=fA (wI (fun x:Od=>decide (x.2.1=t)) xs hlt)
   have hnk:n<=k:=by have:=HO.out.1;rw [vF,uO,mC,mC] at this;have:=eC (fun x:Od=>decide (x.2.1=t)) (xs.take k);rw [sB] at this;omega
   obtain ⟨b,off,rfl,blt,d0,d1,d2,d3,d4,d5,d6⟩:=zET (HI.out.below hw) hlt
   generalize (xs[k]'hlt)=x at *
   obtain ⟨x1,x2,x3,x4,x5,x6,x7⟩:=x
   simp only at d0 d1 d2 d3 d4 d5 d6 HF
   have hal:=wA wr (.cells #[x1,x2,x3,.int .u32 x4,x5,x6,x7] 105)
   have gX:=rB wr (.cells #[x1,x2,x3,.int .u32 x4,x5,x6,x7] 105)
   have hw0:=hw.trans (hal.mono hw.size)
   have e0:(wr.alloc (.cells #[x1,x2,x3,.int .u32 x4,x5,x6,x7] 105)).cell? ⟨wr.heap.size,0,none⟩=yA (.int .i64 x1):=jA gX 0
   have e1:(wr.alloc (.cells #[x1,x2,x3,.int .u32 x4,x5,x6,x7] 105)).cell? ⟨wr.heap.size,1,none⟩=yA (.int .i64 x2):=jA gX 1
   have e2:(wr.alloc (.cells #[x1,x2,x3,.int .u32 x4,x5,x6,x7] 105)).cell? ⟨wr.heap.size,2,none⟩=yA (.int .i64 x3):=jA gX 2
   have e3:(wr.alloc (.cells #[x1,x2,x3,.int .u32 x4,x5,x6,x7] 105)).cell? ⟨wr.heap.size,3,none⟩=yA (.int .u32 x4):=jA gX 3
   have e4:(wr.alloc (.cells #[x1,x2,x3,.int .u32 x4,x5,x6,x7] 105)).cell? ⟨wr.heap.size,4,none⟩=yA (.int .i64 x5):=jA gX 4
   have e5:(wr.alloc (.cells #[x1,x2,x3,.int .u32 x4,x5,x6,x7] 105)).cell? ⟨wr.heap.size,5,none⟩=yA (.int .i64 x6):=jA gX 5
   have e6:(wr.alloc (.cells #[x1,x2,x3,.int .u32 x4,x5,x6,x7] 105)).cell? ⟨wr.heap.size,6,none⟩=yA (.int .i64 x7):=jA gX 6
   have hxl:=eB gX
   have HO2:=fA (jB HO.out hal)
   by_cases hct:x2=t
   ·rw [decide_eq_true hct,if_pos rfl] at HF
    subst hct
    go_upto_region 5 with fail
    generalize wr.alloc (.cells #[x1,x2,x3,.int .u32 x4,x5,x6,x7] 105)=W2 at *
    go_wp2_with (at_builtin;refine yC rfl (.tmp 18) (.tmp 21) rfl tN w.heap.size (.slice A2 n c2) n _ (by rfl) (jB HO2.out (wA W2 _)) (yA ⟨W2.heap.size,0,none⟩) 1 1 [.int .i64 x6] (by rfl) rfl (dC.new W2 _ _) (by simp [qE]) (by unfold fC;omega) (by omega) (pA hw0.size (wA W2 _).size) (fun h=>by cases h) ?_;intro a1 c1 w3 hown hg hat)
    have hb3:=Below.appended (hw0.trans ((wA W2 _).mono hw0.size)) (jB HO2.out (wA W2 _)) hg (pA hw0.size (wA W2 _).size) (mA _)
    go_roundw
    case rel=>exact ⟨k+1,n+1,c1,a1,by omega,rfl,by go_num,by omega,fA (by rw [HF.out,gE,uD];exact hown),hb3⟩
    case measure=>simp [intOf];omega
   ·rw [decide_eq_false hct,if_neg (by decide),oF] at HF
    go_upto_region 5 with fail
    generalize wr.alloc (.cells #[x1,x2,x3,.int .u32 x4,x5,x6,x7] 105)=W2 at *
    go_wp2
    go_roundw
    case rel=>exact ⟨k+1,n,c2,A2,by omega,rfl,by go_num,hn,fA (by rw [HF.out];exact HO2.out),hw0⟩
    case measure=>simp [intOf];omega
  have hk1:¬ (k:Int)<(xs.length:Int):=by omega
  have hke:k=xs.length:=by omega
  subst hke
  go_wp2
  go_ret
  have hO:=HO.out
  rw [zC (mA _)] at hO
  have hl:=hO.1
  rw [jD dN,vF,vF,mC] at hl
  subst hl
  exact ⟨A2,c2,rfl,hO,hw⟩
def tM (xs:List Le) (t:Int):List Int:=(xs.filter (fun x=>decide (x.1=t))).map (fun x=>x.2.2.2.1)
theorem zEs (D : Nat) (A : Option mB) (c : Nat) (xs : List Le) (t : Int) (w : uA) (h : yB vU w A c xs) (hD : w.cell? ⟨D, 1, none⟩ = yA (.slice A xs.length c)) : iA prog 179 #[(D,0), t] w (mD 3 1 (tM xs t).length (flat kG (tM xs t)) w) := by
 have HI:=fA h
 have hmx:=h.max
 have hb0:=xC w
 clear h
 unfold tM
 go_enter func179,ntmps179
 go_wp2
 go_loopw [5,7,14] (fun v5 v7 i wr=>∃ (k n c:Nat) (A:Option mB),k<=xs.length/\v5=.slice A n c/\i=.int .i64 (k:Int)/\n<=xs.length/\jC (wr.ownsRow w.heap.size 3 1 (.slice A n c) n (flat kG (((xs.take k).filter (fun x=>decide (x.1=t))).map (fun x=>x.2.2.2.1))))/\Below w.heap.size w wr) (fun _ _ i _=>xs.length - (intOf i).toNat)
 case atStart=>exact ⟨0,0,0,none,by omega,rfl,rfl,by omega,nB _ _ _ _,hb0⟩
 case round =>
  clear hb0
  obtain ⟨k,n,c2,A2,hk,rfl,rfl,hn,HO,hw⟩:=hrel
  have hk0:(0:Int)<=(k:Int):=by omega
  by_cases hlt:k<xs.length
  ·have hk1:(k:Int)<(xs.length:Int):=by omega
   have HF:=fA (wI (fun x:Le=>decide (x.1=t)) xs hlt)
   have hnk:n<=k:=by have:=HO.out.1;rw [vF,uO,mC,mC] at this;have:=eC (fun x:Le=>decide (x.1=t)) (xs.take k);rw [sB] at this;omega
   obtain ⟨b,off,rfl,blt,d0,d1,d2,d3,d4⟩:=zBd (HI.out.below hw) hlt
   generalize (xs[k]'hlt)=x at *
   obtain ⟨x1,x2,x3,x4,x5⟩:=x
   simp only at d0 d1 d2 d3 d4 HF
   have hal:=wA wr (.cells #[x1,x2,x3,x4,x5] 176)
   have gX:=rB wr (.cells #[x1,x2,x3,x4,x5] 176)
   have hw0:=hw.trans (hal.mono hw.size)
   have e0:(wr.alloc (.cells #[x1,x2,x3,x4,x5] 176)).cell? ⟨wr.heap.size,0,none⟩=yA (.int .i64 x1):=jA gX 0
   have e1:(wr.alloc (.cells #[x1,x2,x3,x4,x5] 176)).cell? ⟨wr.heap.size,1,none⟩=yA (.int .i64 x2):=jA gX 1
   have e2:(wr.alloc (.cells #[x1,x2,x3,x4,x5] 176)).cell? ⟨wr.heap.size,2,none⟩=yA (.int .i64 x3):=jA gX 2
   have e3:(wr.alloc (.cells #[x1,x2,x3,x4,x5] 176)).cell? ⟨wr.heap.size,3,none⟩=yA (.int .i64 x4):=jA gX 3
   have e4:(wr.alloc (.cells #[x1,x2,x3,x4,x5] 176)).cell? ⟨wr.heap.size,4,none⟩=yA (.int .i64 x5):=jA gX 4
   have hxl:=eB gX
   have HO2:=fA (jB HO.out hal)
   by_cases hct:x1=t
   ·rw [decide_eq_true hct,if_pos rfl] at HF
    subst hct
    go_upto_region 5 with fail
    generalize wr.alloc (.cells #[x1,x2,x3,x4,x5] 176)=W2 at *
    go_wp2_with (at_builtin;refine yC rfl (.tmp 22) (.tmp 25) rfl tN w.heap.size (.slice A2 n c2) n _ (by rfl) (jB HO2.out (wA W2 _)) (yA ⟨W2.heap.size,0,none⟩) 1 1 [.int .i64 x4] (by rfl) rfl (dC.new W2 _ _) (by simp [qE]) (by unfold fC;omega) (by omega) (pA hw0.size (wA W2 _).size) (fun h=>by cases h) ?_;intro a1 c1 w3 hown hg hat)
    have hb3:=Below.appended (hw0.trans ((wA W2 _).mono hw0.size)) (jB HO2.out (wA W2 _)) hg (pA hw0.size (wA W2 _).size) (mA _)
    go_roundw
    case rel=>exact ⟨k+1,n+1,c1,a1,by omega,rfl,by go_num,by omega,fA (by rw [HF.out,gE,uD];exact hown),hb3⟩
    case measure=>simp [intOf];omega
   ·rw [decide_eq_false hct,if_neg (by decide),oF] at HF
    go_upto_region 5 with fail
    generalize wr.alloc (.cells #[x1,x2,x3,x4,x5] 176)=W2 at *
    go_wp2
    go_roundw
    case rel=>exact ⟨k+1,n,c2,A2,by omega,rfl,by go_num,hn,fA (by rw [HF.out];exact HO2.out),hw0⟩
    case measure=>simp [intOf];omega
  have hk1:¬ (k:Int)<(xs.length:Int):=by omega
  have hke:k=xs.length:=by omega
  subst hke
  go_wp2
  go_ret
  have hO:=HO.out
  rw [zC (mA _)] at hO
  have hl:=hO.1
  rw [jD dN,vF,vF,mC] at hl
  subst hl
  exact ⟨A2,c2,rfl,hO,hw⟩
end Go.Proofs.YtogbpifcmhafkaaGreat
