/-
 Part PZ of the proof.
-/
import Derived.Test.YtogbpifcmhafkaaGreatPQ
import Derived.Test.YtogbpifcmhafkaaGreatPY
open Go renaming Addr->mB,Calls->iA,MemPlace->zAK,Value->uB,World->uA
open Go.Addr renaming add->sM
open Go.DataW renaming trod->wZ
open Go.Lib renaming hid->fA
open Go.RowKit renaming Hid->jC
open Go.Value renaming cells->lK
open List renaming getElem?_eq_getElem->rA,getElem?_eq_some_iff->xF,length_filter_le->eC,length_map->mC
open Nat renaming le_refl->mA,le_trans->pA,lt_of_lt_of_le->tA,zero_le->vC
open Option renaming some->yA
namespace Go.Proofs.YtogbpifcmhafkaaGreat
open Go.RowKit Tryz
open Go.Lib(hid)
set_option linter.unusedVariables false
set_option linter.unusedSimpArgs false
set_option maxRecDepth 100000
set_option maxHeartbeats 16000000
def fU (now:Int) (o:Od):Bool:=decide (o.2.2.2.2.2.2<now)
theorem zMF (base N:Nat) (now:Int) (w:uA) (hN:N<base) (hl:N<w.heap.size) (hc:w.cell? ⟨N,0,none⟩=yA (.int .i64 now)):xQ base 170 #[(N,0)] (fun x:Od=>Value.agg (qL x).toArray) (fU now) w:=by
 rintro W ⟨x1,x2,x3,x4,x5,x6,x7⟩ hW
 have hal:=wA W (.cells #[x1,x2,x3,.int .u32 x4,x5,x6,x7] 105)
 have hcW:=((bcell hW).1 N 0 hN).trans hc
 have hlW:=tA hl hW.size
 show iA prog 170 #[.agg #[x1,x2,x3,.int .u32 x4,x5,x6,x7],.pointer (yA ⟨N,0,none⟩)] W fun e w'=>e=.returned (.bool (decide (x7<now)))/\Below W.heap.size W w'
 by_cases h:x7<now
 all_goals (
  go_enter func170,ntmps170
  go_wp2
  go_ret
  exact ⟨bC (by simp [h];try omega),hal⟩)
def zPU (bs:List Bt) (ls:List Le) (ds:List Od) (w:uA) (en:Ending) (w':uA):Prop:=∃ A c B d C e,en=.returned (.agg #[.slice A bs.length c,.slice B ls.length d,.slice C ds.length e])/\w'.ownsRow w.heap.size 173 2 (.slice A bs.length c) bs.length (flat zU bs)/\w'.ownsRow w.heap.size 176 5 (.slice B ls.length d) ls.length (flat vU ls)/\w'.ownsRow w.heap.size 105 7 (.slice C ds.length e) ds.length (flat qL ds)/\(∀ x ∈ zB C,x ∉ zB A/\x ∉ zB B)/\Below w.heap.size w w'
theorem zMZ (xs:List Le) (now:Int):(zCc xs now).length<=xs.length:=eC _ _
theorem zIB (A B C:Option mB) (c d e:Nat) (bs:List Bt) (ls:List Le) (ds:List Od) (now:Int) (w:uA) (h1:yB zU w A c bs) (h2:yB vU w B d ls) (h3:yB qL w C e ds):iA prog 104 #[.agg #[.slice A bs.length c,.slice B ls.length d,.slice C ds.length e],.int .i64 now] w (zPU bs (zCc ls now) (nE (fU now) ds) w):=by
 obtain ⟨W,hW⟩:∃ W,W=((w.alloc (.cells #[.slice A bs.length c,.slice B ls.length d,.slice C ds.length e] 56)).alloc (.cells #[now] 3)).alloc (.cells #[.slice none 0 0,.slice none 0 0,.slice none 0 0] 56):=⟨_,rfl⟩
 obtain ⟨⟨g1,g2,g3⟩,hsz,hb⟩:=zGH w (.cells #[.slice A bs.length c,.slice B ls.length d,.slice C ds.length e] 56) (.cells #[now] 3) (.cells #[.slice none 0 0,.slice none 0 0,.slice none 0 0] 56)
 rw [<- hW] at g1 g2 g3 hsz hb
 have hmd:=h3.max
 have HCB:jC (∀ W',Below w.heap.size w W' -> iA prog 102 #[.slice A bs.length c] W' (mD 173 2 bs.length (flat zU bs) W')):=fA fun W' hb=>zLe A c bs.length (flat zU bs) W' (h1.row.below hb) h1.none_ (jD zCt bs) (jF zGN bs) h1.max
 have HEX:jC (∀ W',Below w.heap.size w W' -> iA prog 168 #[.slice B ls.length d,now] W' (zQY (zCc ls now) W')):=fA fun W' hb=>zJU B d ls now W' (h2.below hb)
 have HCD:jC (∀ W',Below w.heap.size w W' -> iA prog 52 #[.slice C ds.length e] W' (mD 105 7 ds.length (flat qL ds) W')):=fA fun W' hb=>zLh C e ds.length (flat qL ds) W' (h3.row.below hb) h3.none_ (jD zW ds) (jF tS ds) h3.max
 have HDF:jC (∀ (base:Nat) (w4:uA) (A4:Option mB) (c4:Nat),base<=w4.heap.size -> w.heap.size+1<base -> w4.cell? ⟨w.heap.size+1,0,none⟩=yA (.int .i64 now) -> w4.ownsRow base 105 7 (.slice A4 ds.length c4) ds.length (flat qL ds) -> iA prog 169 #[.slice A4 ds.length c4,.func (.func 170) #[] #[.pointer (yA ⟨w.heap.size+1,0,none⟩)]] w4 (wY qL base 105 7 A4 c4 (nE (fU now) ds) w4)):=fA fun base w4 A4 c4 hbs hN hc ho=>zJO A4 c4 ds base 170 #[.pointer (yA ⟨w.heap.size+1,0,none⟩)] (enters_of func170 (by kernel_rfl) rfl) (fU now) w4 hbs ho hmd (zMF base (w.heap.size+1) now w4 hN (by omega) hc)
 have HW:=fA hW
 have HSZ:=fA hsz
 have G1:=fA g1
 have G2:=fA g2
 have G3:=fA g3
 obtain ⟨m0,m1,m2,mf0,mf1,mf2,mlt⟩:=vH g1
 clear h1 h2 h3 hW g1 g2 g3 hsz hmd
 generalize zCc ls now=ls2 at *
 generalize nE (fU now) ds=ds2 at *
 go_enter func104,ntmps104
 go_wp2_with (first
  | (go_at_call 102;rw [<- HW.out];refine (HCB.out _ hb).mono ?_;rintro en w1 ⟨A1,c1,rfl,own1,hb1⟩;have hs1:jC (w.heap.size+3<=w1.heap.size):=fA (by have:=hb1.size;have:=HSZ.out;omega);have k1:=kA hb1 G1.out;obtain ⟨n0,n1,n2,nf0,nf1,nf2,nlt⟩:=vH k1;have K2:=fA (zD (i:=0) k1 (.slice A1 bs.length c1));have N2:=fA (pC (kA hb1 G2.out) (show w.heap.size+1≠w.heap.size by omega) (i:=0) (.slice A1 bs.length c1));have R2:=fA (pC (kA hb1 (show W.heap[w.heap.size+1+1]?=_ from G3.out)) (show w.heap.size+1+1≠w.heap.size by omega) (i:=0) (.slice A1 bs.length c1));have hw1:=(hb.trans (hb1.mono hb.size)).setCell (p:=⟨w.heap.size,0,none⟩) (mA _) (.slice A1 bs.length c1);have O1:=fA (rE own1 (fun x hx=>by have:=(qC own1 x hx).1;have:=HSZ.out;omega) 0 (.slice A1 bs.length c1) (b:=w.heap.size));have p1:=jA K2.out 1;have p2:=jA K2.out 2;have q1:=jA N2.out 0;clear own1 k1)
  | (go_at_call 168;refine (HEX.out _ hw1).mono ?_;rintro en w2 ⟨B2,d2,X2,xn,xd,rfl,own2,hb2⟩;have hs2:jC (w1.heap.size<=w2.heap.size):=fA (by have:=hb2.size;simpa using this);have k3:=kA hb2 K2.out;obtain ⟨n0,n1,n2,nf0,nf1,nf2,nlt⟩:=vH k3;have K3:=fA (zD (i:=1) k3 (.slice B2 ls2.length d2));have N3:=fA (pC (kA hb2 N2.out) (show w.heap.size+1≠w.heap.size by omega) (i:=1) (.slice B2 ls2.length d2));have R3:=fA (pC (kA hb2 R2.out) (show w.heap.size+1+1≠w.heap.size by omega) (i:=1) (.slice B2 ls2.length d2));have hw2:=(hw1.trans (hb2.mono hw1.size)).setCell (p:=⟨w.heap.size,1,none⟩) (mA _) (.slice B2 ls2.length d2);have O12:=fA (rE (jB O1.out hb2) (fun x hx=>by have:=(qC O1.out x hx).1;have:=HSZ.out;omega) 1 (.slice B2 ls2.length d2) (b:=w.heap.size));have O2:=fA (rE own2 (fun x hx=>by have:=(qC own2 x hx).1;have:=hs1.out;simp at this ⊢;simp at *;omega) 1 (.slice B2 ls2.length d2) (b:=w.heap.size));have r2:=jA K3.out 2;have s1:=jA N3.out 0;clear own2 k3)
  | (go_at_call 52;refine (HCD.out _ hw2).mono ?_;rintro en w3 ⟨C3,e3,rfl,own3,hb3⟩;have s3:=jA (kA hb3 N3.out) 0;have hs3:=fA hb3.size)
  | (go_at_call 169;refine (HDF.out _ w3 C3 e3 hb3.size (by have:=hs1.out;have:=hs2.out;simp;omega) s3 own3).mono ?_;rintro en w4 ⟨rfl,own4,hb4⟩;have hb34:=hb3.trans hb4;have k4:=kA hb34 K3.out;obtain ⟨n0,n1,n2,nf0,nf1,nf2,nlt⟩:=vH k4;have K4:=fA (zD (i:=2) k4 (.slice C3 ds2.length e3));have R4:=fA (pC (kA hb34 R3.out) (show w.heap.size+1+1≠w.heap.size by omega) (i:=2) (.slice C3 ds2.length e3));have hw4:=fA ((hw2.trans (hb34.mono hw2.size)).setCell (p:=⟨w.heap.size,2,none⟩) (mA _) (.slice C3 ds2.length e3));have O14:=fA (rE (jB O12.out hb34) (fun x hx=>by have:=(qC O12.out x hx).1;have:=HSZ.out;omega) 2 (.slice C3 ds2.length e3) (b:=w.heap.size));have O24:=fA (rE (jB O2.out hb34) (fun x hx=>by have:=(qC O2.out x hx).1;have:=hs1.out;simp at *;omega) 2 (.slice C3 ds2.length e3) (b:=w.heap.size));have O34:=fA (rE own4 (fun x hx=>by have:=(qC own4 x hx).1;have:=hs1.out;have:=hs2.out;simp at *;omega) 2 (.slice C3 ds2.length e3) (b:=w.heap.size));have hap:jC (∀ x ∈ zB C3,x ∉ zB A1/\x ∉ zB B2):=fA (fun x hx=>by have q:=(qC own4 x hx).1;exact ⟨fun h=>by have:=(qC O12.out x h).2;omega,fun h=>by have:=(qC O2.out x h).2;omega⟩);have u0:=jA K4.out 0;have u1:=jA K4.out 1;have u2:=jA K4.out 2;have v0:=jA R4.out 0;have v1:=jA R4.out 1;have v2:=jA R4.out 2;have vf0:=qB R4.out 0;have vf1:=qB R4.out 1;have vf2:=qB R4.out 2))
 obtain ⟨z0,z1,z2,_,_,_,_⟩:=vH (xI R4.out (.slice A1 bs.length c1) (.slice B2 ls2.length d2) (.slice C3 ds2.length e3))
 refine bodyPost_ret (v:=.agg #[.slice A1 bs.length c1,.slice B2 ls2.length d2,.slice C3 ds2.length e3]) (by simp [results,results104,go_sem,z0,z1,z2];try rfl) rfl ?_
 have hz:=HSZ.out
 have h1z:=hs1.out
 have h2z:=hs2.out
 refine ⟨A1,c1,B2,d2,C3,e3,rfl,?_,?_,?_,hap.out,rH hw4.out (by omega) _ _ _⟩
 ·exact oC (bR O14.out (by omega) _ _ _) (by omega)
 ·exact oC (bR O24.out (by simp at *;omega) _ _ _) (by simp at *;omega)
 ·exact oC (bR O34.out (by simp at *;omega) _ _ _) (by simp at *;omega)
theorem zMP (B:Nat) (A:Option mB) (c:Nat) (went:List Int) (W0 w:uA) (h:yB kG W0 A c went) (hl:B<W0.heap.size) (hB:W0.cell? ⟨B,0,none⟩=yA (.slice A went.length c)) (hb:Below W0.heap.size W0 w):xQ W0.heap.size 172 #[(B,0)] (fun x:Int=>Value.int .i64 x) (fun id=>ctn went id) w:=by
 intro W x hW
 have h0:=hb.trans hW
 have hBW:=((bcell h0).1 B 0 hl).trans hB
 have HC:=fA (pQ A c went x W (h.below h0))
 show iA prog 172 #[x,.pointer (yA ⟨B,0,none⟩)] W fun e w'=>e=.returned (.bool (ctn went x))/\Below W.heap.size W w'
 generalize ctn went x=r at *
 clear h hB hW
 go_enter func172,ntmps172
 go_wp2_with (go_at_call 68;refine HC.out.mono ?_;rintro e w1 ⟨rfl,hx⟩;subst hx)
 go_ret
 exact ⟨rfl,xC _⟩
def zAn (drops:List Od) (c:Ch):Ch:=(c.1,c.2.1,c.2.2.1,nE (fun id=>ctn (iM drops c.1) id) c.2.2.2)
def bX (xs:List Ch) (drops:List Od):List Ch:=xs.map (zAn drops)
theorem zPq (A : Option mB) (c : Nat) (xs : List Ch) (B : Option mB) (d : Nat) (drops : List Od) (w : uA) (h : vM w A c xs) (hd : yB qL w B d drops) : iA prog 105 #[.slice A xs.length c, .slice B drops.length d] w (zFC (bX xs drops) w) := by
 have hmx:=h.max
 have hn0:=h.none_
 obtain ⟨ps,hpl,hrow,hhold⟩:=h
 have hcl:=vJ hpl
 have HC:jC (iA prog 143 #[.slice A xs.length c] w (mD 65 4 xs.length (flat zDJ (bF xs ps)) w)):=fA (zGT A c xs.length (flat zDJ (bF xs ps)) w hrow.row hn0 (by rw [jD jU,hcl]) (jF zEv _) hmx)
 have HH:jC (∀ (i:Nat) (x:Ch) (a:Option mB × Nat),xs[i]?=yA x -> ps[i]?=yA a -> ∀ W,Below w.heap.size w W -> iA prog 121 #[.slice a.1 x.2.2.2.length a.2] W (mD 3 1 x.2.2.2.length (flat kG x.2.2.2) W)/\x.2.2.2.length<=1000000):=fA fun i x a p q W hb=>by
  have f:=(hhold i x a p q).below hb
  exact ⟨jT a.1 a.2 x.2.2.2.length (flat kG x.2.2.2) W f.row f.none_ (jD dN _) (jF cV _) f.max,f.max⟩
 have HGO:jC (∀ (t:Int) (W:uA),Below w.heap.size w W -> iA prog 171 #[.slice B drops.length d,.int .i64 t] W (mD 3 1 (iM drops t).length (flat kG (iM drops t)) W)):=fA fun t W hb=>zIe B d drops t W (hd.below hb)
 have HGL:jC (∀ t,(iM drops t).length<=1000000):=fA fun t=>by
  have:=hd.max
  unfold iM
  rw [mC]
  exact pA (eC _ _) this
 have HP:=fA hpl
 clear hrow hhold hn0 hpl hd
 go_enter func105,ntmps105
 go_wp2_with (go_at_call 143;refine HC.out.mono ?_;rintro e w2 ⟨A2,c2,rfl,own2,hw2⟩;have HO2:=fA own2;clear own2)
 go_loopw [6,7,8,13] (fun v6 v7 v8 i wr=>∃ (k:Nat) (qs:List (Option mB × Nat)),k<=xs.length/\i=.int .i64 (k:Int)/\jC (kM wr w.heap.size A2 c2 xs.length (bF xs ps) ((xs.take k).map (zAn drops)) qs)/\Below w.heap.size w wr) (fun _ _ _ i _=>xs.length - (intOf i).toNat)
 case atStart=>exact ⟨0,[],by omega,rfl,fA (kM.start HO2.out hcl),hw2⟩
 case round =>
  clear hw2 HO2
  obtain ⟨k,qs,hk,rfl,HX,hw⟩:=hrel
  have hk0:(0:Int)<=(k:Int):=by omega
  by_cases hlt:k<xs.length
  ·have hk1:(k:Int)<(xs.length:Int):=by omega
   have hlp:k<ps.length:=by rw [HP.out];exact hlt
   have hkt:((xs.take k).map (zAn drops)).length=k:=by rw [mC,List.length_take];omega
   have hco:k<(bF xs ps).length:=by omega
   have hat:=fS hlt hlp hco
   have hCE:=HX.out.cells (by omega)
   simp only [hkt,hat] at hCE
   obtain ⟨g,hAg,hbg,hgl,c0,c1,c2',c3,f3⟩:=hCE
   subst hAg
   have HHk:=HH.out k _ _ (rA hlt) (rA hlp)
   have hxt:(xs.take (k+1)).map (zAn drops)=(xs.take k).map (zAn drops) ++ [zAn drops (xs[k]'hlt)]:=by rw [List.take_succ_eq_append_getElem hlt,List.map_append];rfl
   generalize (ps[k]'hlp)=a at *
   generalize (xs[k]'hlt)=x at *
   obtain ⟨x1,x2,x3,x4⟩:=x
   obtain ⟨a1,a2⟩:=a
   simp only [zAY] at c0 c1 c2' c3 HHk hat
   have hx4:=(HHk wr hw).2
   have hkl:=wJ (fun id=>ctn (iM drops x1) id) x4
   have HST:jC (∀ (W1:uA) (a:Option mB) (cc:Nat),Below wr.heap.size wr W1 -> W1.ownsRow wr.heap.size 3 1 (.slice a (nE (fun id=>ctn (iM drops x1) id) x4).length cc) (nE (fun id=>ctn (iM drops x1) id) x4).length (flat kG (nE (fun id=>ctn (iM drops x1) id) x4)) -> kM (W1.setCell ⟨g,k * 4+3,none⟩ (.slice a (nE (fun id=>ctn (iM drops x1) id) x4).length cc)) w.heap.size (yA ⟨g,0,none⟩) c2 xs.length (bF xs ps) ((xs.take (k+1)).map (zAn drops)) (qs ++ [(a,cc)])):=fA fun W1 a cc hb ho=>by
    have:=HX.out.step (W1:=W1) (a:=a) (cc:=cc) (hs:=nE (fun id=>ctn (iM drops x1) id) x4) (y:=zAn drops (x1,x2,x3,x4)) (by omega) hb (mA _) hw.size ho (by omega) (by simp only [hkt,hat];rfl) (by simp only [hkt,hat];rfl) (by simp only [hkt,hat];rfl) rfl
    rw [hkt,<- hxt] at this
    exact this
   have HCL:jC (∀ W,Below w.heap.size w W -> iA prog 121 #[.slice a1 x4.length a2] W (mD 3 1 x4.length (flat kG x4) W)):=fA fun W hb=>(HHk W hb).1
   have HG1:=fA (fun W hb=>HGO.out x1 W hb)
   have hgl1:=HGL.out x1
   have HDF:jC (∀ (W3 w4:uA) (Bx:Nat) (G:Option mB) (gc:Nat) (A4:Option mB) (c4:Nat),yB kG W3 G gc (iM drops x1) -> Bx<W3.heap.size -> W3.cell? ⟨Bx,0,none⟩=yA (.slice G (iM drops x1).length gc) -> Below W3.heap.size W3 w4 -> w4.ownsRow W3.heap.size 3 1 (.slice A4 x4.length c4) x4.length (flat kG x4) -> iA prog 57 #[.slice A4 x4.length c4,.func (.func 172) #[] #[.pointer (yA ⟨Bx,0,none⟩)]] w4 (wY kG W3.heap.size 3 1 A4 c4 (nE (fun id=>ctn (iM drops x1) id) x4) w4)):=fA fun W3 w4 Bx G gc A4 c4 hf hl hc hb ho=>jV A4 c4 x4 W3.heap.size 172 #[.pointer (yA ⟨Bx,0,none⟩)] (enters_of func172 (by kernel_rfl) rfl) (fun id=>ctn (iM drops x1) id) w4 hb.size ho hx4 (zMP Bx G gc (iM drops x1) W3 w4 hf hl hc hb)
   clear HHk hxt hat hkl
   generalize nE (fun id=>ctn (iM drops x1) id) x4=ks at *
   generalize iM drops x1=gs at *
   have hal:=wA wr (.cells #[x1,x2,.int .u32 x3,.slice a1 x4.length a2] 65)
   have gX:=rB wr (.cells #[x1,x2,.int .u32 x3,.slice a1 x4.length a2] 65)
   have hw0:=hw.trans (hal.mono hw.size)
   go_wp2_with (first
    | (go_at_call 171;refine (HG1.out _ hw0).mono ?_;rintro e w3 ⟨G3,gc3,rfl,own3,hb3⟩;have hb30:=hal.trans (hb3.mono hal.size);have g3:=kA hb3 gX;have f3':=yB.of_own (enc:=kG) own3 hgl1;have hal3:=wA w3 (.cells #[.slice G3 gs.length gc3] 63);have gB:=rB w3 (.cells #[.slice G3 gs.length gc3] 63);have g3b:=kA hal3 g3;obtain ⟨e0,e1,e2,e3,_,_,_,_,elt⟩:=nH g3b;have hb3b:=hb30.trans (hal3.mono hb30.size);have hw3b:=hw.trans (hb3b.mono hw.size))
    | (go_at_call 121;refine (HCL.out _ hw3b).mono ?_;rintro e w4 ⟨A4,c4,rfl,own4,hb4⟩;have HD4:=fA (HDF.out _ w4 _ G3 gc3 A4 c4 (f3'.below hal3) (eB gB) (jA gB 0) hb4 own4))
    | (go_at_call 57;refine HD4.out.mono ?_;rintro e w5 ⟨rfl,own5,hb5⟩;have hb05:=hb3b.trans ((hb4.trans hb5).mono hb3b.size);have HO5:=fA (oC own5 hb3b.size);have m5:=((bcell hb05).1 g (k * 4+3) hgl).trans c3;have n5:=((bcell hb05).2 g (k * 4+3) hgl).trans f3))
   have HN:=HST.out w5 A4 c4 hb05 HO5.out
   have hw5:=hw.trans (hb05.mono hw.size)
   go_roundw
   case rel=>exact ⟨k+1,_,by omega,by go_num,fA HN,hw5.setCell (p:=⟨g,k * 4+3,none⟩) hbg _⟩
   case measure=>simp [intOf];omega
  have hk1:¬ (k:Int)<(xs.length:Int):=by omega
  have hke:k=xs.length:=by omega
  subst hke
  have hsl:(bX xs drops).length=xs.length:=by unfold bX;rw [mC]
  have HSL:=fA hsl
  clear hsl
  go_wp2
  go_ret
  have hX:=HX.out
  rw [List.take_of_length_le (mA _)] at hX
  exact ⟨A2,c2,by rw [HSL.out];rfl,hX.done HSL.out,hw⟩
section
open Go.ChangeShapes Go.WideShapes Go.Deep Go.Joins
abbrev ItW:=Int × Int × Int × Int
def itW (m:ItW):List uB:=[.int .i64 m.1,.int .i64 m.2.1,.int .i64 m.2.2.1,.int .i64 m.2.2.2]
def zQx (m:ItW):Prop:=Wf m.1/\Wf m.2.1/\Wf m.2.2.1/\Wf m.2.2.2
structure ItemsW (w:uA) (a:Option mB) (cap:Nat) (ms:List ItW):Prop where
 at_:∀ i m,ms[i]?=yA m -> ∃ b off,a=yA ⟨b,off,none⟩/\b<w.heap.size/\∀ j u,(itW m)[j]?=yA u -> w.cell? ⟨b,off+(i * 4+j),none⟩=yA u
 cap:ms.length<=cap
 none_:a=none -> ms.length=0
 max:ms.length<=maxLen
 wf:∀ m ∈ ms,zQx m
theorem ItemsW.below {w w':uA} {a:Option mB} {cap:Nat} {ms:List ItW} (h:ItemsW w a cap ms) (hb:Below w.heap.size w w'):ItemsW w' a cap ms :=
 ⟨fun i m hi=>by
  obtain ⟨b,off,h1,h2,h3⟩:=h.at_ i m hi
  exact ⟨b,off,h1,tA h2 hb.size,fun j u hj=>((bcell hb).1 _ _ h2).trans (h3 j u hj)⟩,h.cap,h.none_,h.max,h.wf⟩
theorem zIh {w:uA} {a:Option mB} {cap:Nat} {ms:List ItW} (h:ItemsW w a cap ms) {k:Nat} (hk:k<ms.length) :
  ∃ b off,a=yA ⟨b,off,none⟩/\b<w.heap.size/\w.cell? ⟨b,off+k * 4,none⟩=yA (.int .i64 (ms[k]).1)/\w.cell? ⟨b,off+k * 4+1,none⟩=yA (.int .i64 (ms[k]).2.1)/\w.cell? ⟨b,off+k * 4+2,none⟩=yA (.int .i64 (ms[k]).2.2.1)/\w.cell? ⟨b,off+k * 4+3,none⟩=yA (.int .i64 (ms[k]).2.2.2):=by
 obtain ⟨b,off,h1,h2,h3⟩:=h.at_ k _ (rA hk)
 have e:∀ j,off+k * 4+j=off+(k * 4+j):=fun j=>by omega
 refine ⟨b,off,h1,h2,h3 0 _ rfl,?_,?_,?_⟩
 ·rw [e 1];exact h3 1 _ rfl
 ·rw [e 2];exact h3 2 _ rfl
 ·rw [e 3];exact h3 3 _ rfl
section
variable {H:Type} {enc:TypeId × uB -> H} {w:uA}
theorem zDG:prog.cellsOf 32=4:=by kernel_rfl
theorem zHy:prog.cellsOf 3=1:=by kernel_rfl
theorem dM {n:Nat} {cs:List uB} {c:uB} {xs:List (DataW H × List zAK)} (f:Field) {i o:Nat} (h:wZ enc prog w 0 (fun _=>true) true n f.type ((cs.drop f.offset).take (prog.cellsOf f.type))=xs[i]?) (hi:i<xs.length) (ht:f.type=3) (ho:f.offset=o) (hc:cs[o]?=yA c):∃ k,c=.int .i64 k/\(Lit.int .i64 k).wf=true:=by
 obtain ⟨hol,hoe⟩:=xF.1 hc
 rw [ht,ho,zHy,rA hi,List.drop_eq_getElem_cons hol,hoe] at h
 obtain ⟨k,h1,_,h2⟩:=DataW.trod_int underlying3 h
 simp at h1
 exact ⟨k,h1,h2⟩
theorem zRD {cs:List uB} (h:cs.length=4):∃ c0 c1 c2 c3,cs=[c0,c1,c2,c3]:=by
 match cs,h with
 | [c0,c1,c2,c3],_=>exact ⟨c0,c1,c2,c3,rfl⟩
theorem zKB {fuel:Nat} {cs:List uB} {y:DataW H × List zAK} (h:wZ enc prog w 0 (fun _=>true) true fuel 32 cs=yA y):∃ m:ItW,cs=itW m/\zQx m:=by
 obtain ⟨xs,n,_,_,hl,hx,hf⟩:=DataW.trod_struct underlying32 h
 rw [zDG] at hl
 obtain ⟨c0,c1,c2,c3,rfl⟩:=zRD hl
 obtain ⟨k0,rfl,w0⟩:=dM _ (i:=0) (c:=c0) (hf 0 _ rfl) (by rw [hx];decide) rfl rfl rfl
 obtain ⟨k1,rfl,w1⟩:=dM _ (i:=1) (c:=c1) (hf 1 _ rfl) (by rw [hx];decide) rfl rfl rfl
 obtain ⟨k2,rfl,w2⟩:=dM _ (i:=2) (c:=c2) (hf 2 _ rfl) (by rw [hx];decide) rfl rfl rfl
 obtain ⟨k3,rfl,w3⟩:=dM _ (i:=3) (c:=c3) (hf 3 _ rfl) (by rw [hx];decide) rfl rfl rfl
 exact ⟨(k0,k1,k2,k3),rfl,w0,w1,w2,w3⟩
theorem openW_items {r : Reach} {b0 : Nat} {v : uB} {d : DataW H} {p : List zAK} (hv : Value.okWide prog w r b0 24 v) (h : DataW.Trod enc prog w 0 (fun _ => true) true 24 v d p) :
  ∃ a cap ms,v=.slice a ms.length cap/\ItemsW w a cap ms:=by
 obtain ⟨a,l,c,rfl⟩:=okWide_slice underlying24 hv
 obtain ⟨fuel,hf⟩:=h
 rcases open_slice underlying24 (show wZ enc prog w 0 (fun _=>true) true fuel 24 [.slice a l c]=yA (d,p) by simpa [lK] using hf) with ⟨h1,_⟩ | ⟨a',len,cap,m,n,D,Pl,hcs,hb,hl,hm,hmm,hx,hi⟩
 ·simp at h1
  obtain ⟨rfl,rfl,rfl⟩:=h1
  exact ⟨none,0,[],rfl,⟨fun i m h=>by simp at h,mA _,fun _=>rfl,vC _,fun m h=>(by cases h)⟩⟩
 ·simp at hcs
  obtain ⟨rfl,rfl,rfl⟩:=hcs
  obtain ⟨ms,hel,hes⟩:=zDL (R:=fun i (m:ItW)=>zQx m/\∀ j u,(itW m)[j]?=yA u -> w.cell? (a'.add (i * 4+j))=yA u) l fun i hil=>by
   obtain ⟨cs',hc,ht⟩:=hi i (by rw [hmm];simp;omega)
   rw [zDG] at hc
   obtain ⟨m,rfl,hwf⟩:=zKB ht
   obtain ⟨_,_,hat⟩:=World.cells?_some hc
   refine ⟨m,hwf,fun j u hj => ?_⟩
   have hj7:j<4:=by
    rcases Nat.lt_or_ge j 4 with h | h
    ·exact h
    ·rw [List.getElem?_eq_none (by exact h)] at hj;cases hj
   rw [<- Go.Deep.add_add,hat j hj7]
   exact hj
  subst hel
  refine ⟨yA a',c,ms,rfl,⟨fun i m him => ?_,hl,(fun h=>by cases h),pA hl hm,fun m hmem => ?_⟩⟩
  rotate_left 1
  ·obtain ⟨i,hi,rfl⟩:=List.getElem_of_mem hmem
   exact (hes i _ (rA hi)).1
  have h1:=(hes i m him).2
  obtain ⟨b,off,spot⟩:=a'
  have h0:=h1 0 _ rfl
  have hspot:spot=none:=by
   have hlt0:0<ms.length:=Nat.lt_of_le_of_lt (vC i) (xF.1 him).1
   have z1:=(hes 0 _ (rA hlt0)).2
   simpa [sM] using World.cell?_spot (z1 0 _ rfl)
  subst hspot
  have hadd:∀ j,(⟨b,off,none⟩:mB).add j=⟨b,off+j,none⟩:=fun j=>by unfold sM;split <;> simp_all
  rw [hadd] at h0
  exact ⟨b,off,rfl,block_lt_of_cell h0,fun j u hj=>by have:=h1 j u hj;rwa [hadd] at this⟩
end
end
section
open Go.ChangeShapes Go.WideShapes Go.Deep Go.Joins
section
variable {H:Type} {enc:TypeId × uB -> H} {w:uA}
theorem zGO:prog.cellsOf 23=6:=by kernel_rfl
theorem zRE {cs:List uB} (h:cs.length=6):∃ c0 c1 c2 c3 c4 c5,cs=[c0,c1,c2,c3,c4,c5]:=by
 match cs,h with
 | [c0,c1,c2,c3,c4,c5],_=>exact ⟨c0,c1,c2,c3,c4,c5,rfl⟩
theorem zIz {fuel:Nat} {cs:List uB} {y:DataW H × List zAK} (h:wZ enc prog w 0 (fun _=>true) true fuel 23 cs=yA y):∃ k0 k1 k2 k3 k4 k5,cs=[.int .i64 k0,.int .i64 k1,.int .i64 k2,.int .i64 k3,.int .i64 k4,.int .i64 k5]:=by
 obtain ⟨xs,n,_,_,hl,hx,hf⟩:=DataW.trod_struct underlying23 h
 rw [zGO] at hl
 obtain ⟨c0,c1,c2,c3,c4,c5,rfl⟩:=zRE hl
 obtain ⟨k0,rfl,_⟩:=dM _ (i:=0) (c:=c0) (hf 0 _ rfl) (by rw [hx];decide) rfl rfl rfl
 obtain ⟨k1,rfl,_⟩:=dM _ (i:=1) (c:=c1) (hf 1 _ rfl) (by rw [hx];decide) rfl rfl rfl
 obtain ⟨k2,rfl,_⟩:=dM _ (i:=2) (c:=c2) (hf 2 _ rfl) (by rw [hx];decide) rfl rfl rfl
 obtain ⟨k3,rfl,_⟩:=dM _ (i:=3) (c:=c3) (hf 3 _ rfl) (by rw [hx];decide) rfl rfl rfl
 obtain ⟨k4,rfl,_⟩:=dM _ (i:=4) (c:=c4) (hf 4 _ rfl) (by rw [hx];decide) rfl rfl rfl
 obtain ⟨k5,rfl,_⟩:=dM _ (i:=5) (c:=c5) (hf 5 _ rfl) (by rw [hx];decide) rfl rfl rfl
 exact ⟨k0,k1,k2,k3,k4,k5,rfl⟩
theorem openW_rules_arg {r:Reach} {b0:Nat} {v:uB} {d:DataW H} {p:List zAK} (hv:Value.okWide prog w r b0 23 v) (h:DataW.Trod enc prog w 0 (fun _=>true) true 23 v d p) :
  ∃ k0 k1 k2 k3 k4 k5,v=.agg #[.int .i64 k0,.int .i64 k1,.int .i64 k2,.int .i64 k3,.int .i64 k4,.int .i64 k5]/\True:=by
 obtain ⟨cs,rfl,_⟩:=okWide_struct underlying23 hv
 obtain ⟨fuel,hf⟩:=h
 obtain ⟨k0,k1,k2,k3,k4,k5,h1⟩:=zIz (show wZ enc prog w 0 (fun _=>true) true fuel 23 cs.toList=yA (d,p) by simpa [lK] using hf)
 refine ⟨k0,k1,k2,k3,k4,k5,?_,trivial⟩
 obtain ⟨cs⟩:=cs
 simp at h1
 subst h1
 rfl
end
end
end Go.Proofs.YtogbpifcmhafkaaGreat
