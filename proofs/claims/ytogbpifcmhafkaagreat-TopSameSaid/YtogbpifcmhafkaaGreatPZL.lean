/-
 Part PZL of the proof.
-/
import Derived.Test.YtogbpifcmhafkaaGreatPZK
open Go renaming World->uA
open Go.Lib renaming hid->fA
open Go.RowKit renaming Hid->jC
open Go.World renaming size_alloc->wB
open List renaming length_append->kB,length_filter_le->eC,length_map->mC
open Nat renaming le_refl->mA
open Option renaming some->yA
open Prod.mk renaming injEq->cX
namespace Go.Proofs.YtogbpifcmhafkaaGreat
open Go.RowKit Tryz
open Go.Lib(hid)
set_option linter.unusedVariables false
set_option linter.unusedSimpArgs false
set_option maxRecDepth 100000
set_option maxHeartbeats 16000000
def repL (c : uS) (n : Ne) (x : Ch) (lives : List Int) : Nat -> zAb -> zAb
 | 0,p=>p
 | f + 1, p =>
  if n.2.1+((tM p.1 x.1).length:Int)<c.r.2.2.2.1 then
   if (yM c.ns c.al (zH c.cs c.ns p.1) (x.2.2.2 ++ (tM p.1 x.1 ++ iM p.2.1 x.1))).2 && (zZ p.1 c.r.2.1 lives).2 && (copyS c.r c.t p x.1 x.2.1 x.2.2.1 (zZ p.1 c.r.2.1 lives).1 (yM c.ns c.al (zH c.cs c.ns p.1) (x.2.2.2 ++ (tM p.1 x.1 ++ iM p.2.1 x.1))).1).2
   then repL c n x lives f (copyS c.r c.t p x.1 x.2.1 x.2.2.1 (zZ p.1 c.r.2.1 lives).1 (yM c.ns c.al (zH c.cs c.ns p.1) (x.2.2.2 ++ (tM p.1 x.1 ++ iM p.2.1 x.1))).1).1
   else p
  else p
def zKL (c:uS) (p:zAb) (n:Ne):zAb:=repL c n (rF c.cs n.1).1 (nE (fun id => !ctn c.al id) (rF c.se n.1).1.2.2.2) 1000 p
def repairF (c:uS) (p:zAb) (l:List Ne):zAb:=l.foldl (zKL c) p
theorem zHg (c:uS) (p:zAb) (l:List Ne) {k:Nat} (hk:k<l.length):repairF c p (l.take (k+1))=zKL c (repairF c p (l.take k)) (l[k]'hk):=by
 unfold repairF
 rw [List.take_succ_eq_append_getElem hk,List.foldl_append]
 rfl
theorem zDD {xs:List Le} {x:Le} {e a:Int} (h:(jP xs x e a).2=0):(jP xs x e a).1=xs ++ [x]/\(xs.length:Int)<a:=by
 unfold jP at h ⊢
 split at h
 ·cases h
 ·next h1 =>
  rw [if_neg h1]
  split at h
  ·cases h
  ·next h2 =>
   rw [if_neg h2]
   split at h
   ·cases h
   ·next h3=>rw [if_neg h3];exact ⟨rfl,by omega⟩
theorem zNP {r:Ru} {t:Int} {p:zAb} {x1 x2 x3 f g:Int} (h:(copyS r t p x1 x2 x3 f g).2=true):∃ x o,x.1=x1/\(copyS r t p x1 x2 x3 f g).1=(p.1 ++ [x],p.2.1,p.2.2.1 ++ [o],p.2.2.2)/\(p.1.length:Int)<r.2.2.1:=by
 unfold copyS at h ⊢
 split at h
 ·next h1 =>
  rw [if_pos h1]
  obtain ⟨q1,q2⟩:=zDD h1
  exact ⟨_,_,rfl,by rw [q1],q2⟩
 ·cases h
theorem zNO {r:Ru} {t:Int} {p:zAb} {x1 x2 x3 f g:Int} (h:(copyS r t p x1 x2 x3 f g).2=false):(copyS r t p x1 x2 x3 f g).1=p:=by
 unfold copyS at h ⊢
 split at h
 ·cases h
 ·next h1=>rw [if_neg h1]
theorem slc3 {w:uA} {a b c:Option Addr} {ca cb cc:Nat} {xs ys zs:List Int} (h1:yB kG w a ca xs) (h2:yB kG w b cb ys) (h3:yB kG w c cc zs):zAu kG (w.alloc (.cells #[.slice a xs.length ca,.slice b ys.length cb,.slice c zs.length cc] 63)) w.heap.size [xs,ys,zs] [(a,ca),(b,cb),(c,cc)]:=by
 have g:=rB w (.cells #[.slice a xs.length ca,.slice b ys.length cb,.slice c zs.length cc] 63)
 refine ⟨rfl,eB g,fun i x p hx hp => ?_⟩
 match i with
 | 0=>simp at hx hp;subst hx hp;exact ⟨jA g 0,h1.alloc _⟩
 | 1=>simp at hx hp;subst hx hp;exact ⟨jA g 1,h2.alloc _⟩
 | 2=>simp at hx hp;subst hx hp;exact ⟨jA g 2,h3.alloc _⟩
 | i+3=>simp at hx
def zOx (w:uA) (D:Nat):Nat:=match w.cell? ⟨D,1,none⟩ with | some v=>zOy v | none=>0
theorem copyQ {m m':uQ} (h:m'.p=m.p):m'.ls=m.ls/\m'.ds=m.ds/\m'.os=m.os/\m'.xs=m.xs:=by
 simp only [uQ.p,cX] at h
 exact h
theorem zRu {m m':uQ} {x:Le} {o:Od} (h:m'.p=(m.p.1 ++ [x],m.p.2.1,m.p.2.2.1 ++ [o],m.p.2.2.2)):m'.ls=m.ls ++ [x]/\m'.ds=m.ds/\m'.os=m.os ++ [o]/\m'.xs=m.xs:=by
 simp only [uQ.p,cX] at h
 exact h
theorem zRd {w:uA} {D:Nat} {c:uS} {m:uQ} (h:w.heap[D]?=yA (c.ob m)):zOx w D=m.ls.length:=by
 unfold zOx
 rw [jA h 1]
 rfl
theorem zHK (l:List Le) (x:Le) (t:Int) (h:x.1=t):(tM (l ++ [x]) t).length=(tM l t).length+1:=by
 unfold tM
 rw [List.filter_append,List.map_append,kB]
 simp [h]
theorem zPj (B D:Nat) (A:Option Addr) (k:Nat) (al:List Int) (w0 w:uA) (hB:B<w0.heap.size) (cB:w0.cell? ⟨B,0,none⟩=yA (.pointer (yA ⟨D,0,none⟩))) (hD:D<w0.heap.size) (cD:w0.cell? ⟨D,13,none⟩=yA (.slice A al.length k)) (h:yB kG w0 A k al) (hb:Below w0.heap.size w0 w):xQ w0.heap.size 178 #[(B,0)] (fun x:Int=>Value.int .i64 x) (fun id => !ctn al id) w:=by
 intro W x hW
 have h0:=hb.trans hW
 have e1:=((bcell h0).1 B 0 hB).trans cB
 have e2:=((bcell h0).1 D 13 hD).trans cD
 have HC:=fA (pQ A k al x W (h.below h0))
 show Calls prog 178 #[x,.pointer (yA ⟨B,0,none⟩)] W fun e w'=>e=.returned (.bool (!ctn al x))/\Below W.heap.size W w'
 generalize ctn al x=r at *
 clear h cB cD hW
 go_enter func178,ntmps178
 go_wp2_with (go_at_call 68;refine HC.out.mono ?_;rintro e w1 ⟨rfl,hx⟩;subst hx)
 go_ret
 exact ⟨rfl,xC _⟩
theorem zKM (Q:Nat -> Prop) (base D:Nat) (c:uS) (m:uQ) (N:Nat) (A:Option Addr) (ac:Nat) (nl:List Ne) (w:uA) (h:fW Q base w D c m) (ho:zPT c) (hn:zNq c m N) (hN:N<=10000) (h2:vS Q zDO w A ac nl) (hnl:nl.length<=1000) (hnb:∀ x ∈ nl,0<=x.2.1/\x.2.1<=1000000) (hfc:∀ t,(rF c.cs t).1.2.2.2.length<=1000):Calls prog 107 #[(D,0),.slice A nl.length ac] w fun e w'=>∃ m',e=.returned (.tuple #[])/\m'.p=repairF c m.p nl/\zNq c m' (N+100)/\sG Q base D c m m' w w':=by
 have HOK:=fA ho
 have hnl1:c.ns.length<=1000:=by rcases zBC c.ns 0 ho.ns with q | q <;> omega
 have hsw:c.r.2.2.2.1<=8/\c.r.2.2.1<=64:=by
  have:=ho.r
  simp only [vT,zAS,Bool.and_eq_true,decide_eq_true_eq] at this
  omega
 have HNE:=fA h2
 have HSU:=fA (fun k (hk:k<nl.length)=>zHg c m.p nl hk)
 have hal:=wA w (.cells #[.pointer (yA ⟨D,0,none⟩)] 177)
 have gB:=rB w (.cells #[.pointer (yA ⟨D,0,none⟩)] 177)
 have HNB:=fA hnb
 have HFC:=fA hfc
 have hAA:=h.below hal
 have hBD:w.heap.size ∉ m.S D:=fun hc=>by
  rw [uQ.inS] at hc
  obtain ⟨k0,k1,k2,k3,k4⟩:=h.lts
  rcases hc with r | r | r | r
  ·omega
  ·have:=k2 _ r;omega
  ·have:=k3 _ r;omega
  ·have:=k4 _ r;omega
 have HW0:=fA (sG.refl h hal)
 have HP0:jC (m.p=repairF c m.p (nl.take 0)):=fA rfl
 have HN0:jC (m.ls.length<=100/\m.ds.length<=N/\m.os.length<=N+m.ls.length/\m.xs.length<=N):=fA ⟨hn.ls,hn.ds,by have:=hn.os;omega,hn.xs⟩
 have HNE:=fA (h2.below hal)
 have GB:=fA gB
 obtain ⟨W1,hW1⟩:∃ W1,W1=w.alloc (.cells #[.pointer (yA ⟨D,0,none⟩)] 177):=⟨_,rfl⟩
 rw [<- hW1] at HNE GB HW0 hAA
 have HR0:=fA (sG.refl hAA (xC W1))
 have hBl:=eB GB.out
 have HW1:=fA hW1
 clear h2 h ho hn gB hal hW1 hAA hnb hfc
 go_enter func107,ntmps107
 go_wp2_with fail
 refine wp_scope_straight ?_
 go_wp2_with fail
 refine wp_label ?_
 go_wp2
 rw [<- HW1.out]
 clear HW1
 go_loopw [5,6,7,8,9,10,11,12,13,14,15,18] (fun v5 v6 v7 v8 v9 v10 v11 v12 v13 v14 v15 i wr=>∃ (k:Nat) (m':uQ),k<=nl.length/\i=.int .i64 (k:Int)/\jC (m'.p=repairF c m.p (nl.take k))/\jC (m'.ls.length<=100/\m'.ds.length<=N/\m'.os.length<=N+m'.ls.length/\m'.xs.length<=N)/\jC (sG Q base D c m m' W1 wr)) (fun _ _ _ _ _ _ _ _ _ _ _ i _=>nl.length - (intOf i).toNat)
 case atStart=>exact ⟨0,m,by omega,rfl,HP0,HN0,HR0⟩
 case round =>
  clear HR0 HN0 HP0
  obtain ⟨k,m',hk,rfl,HP,HN,HR⟩:=hrel
  have hk0:(0:Int)<=(k:Int):=by omega
  by_cases hlt:k<nl.length
  ·have hk1:(k:Int)<(nl.length:Int):=by omega
   have HS:=fA (HSU.out k hlt)
   have HA:=fA HR.out.at_
   have hqs:∀ x,Q x -> x ∉ m.S D:=fun x hx hs=>HW0.out.at_.nq x hs hx
   obtain ⟨b,off,hAb,blt,e0,e1,e2⟩:=zON (HNE.out.chg HR.out.chg hqs).1 hlt
   have hnb:=HNB.out _ (List.getElem_mem hlt)
   generalize (nl[k]'hlt)=n at *
   obtain ⟨n1,n2,n3⟩:=n
   simp only at e0 e1 e2 hnb
   subst hAb
   have gB:=HR.out.chg.keep GB.out hBD
   have hal:=wA wr (vN n1 n2 n3)
   have gX5:=rB wr (vN n1 n2 n3)
   have HF:=fA (fun V (hb:Below wr.heap.size wr V)=>mS c.cA c.cc c.cs n1 V (HA.out.cs.in_.below hb))
   have HF2:=fA (fun V (hb:Below wr.heap.size wr V)=>mS c.sA c.sc c.se n1 V (HA.out.se.in_.below hb))
   have HST:jC (zKL c m'.p (n1,n2,n3)=repL c (n1,n2,n3) (rF c.cs n1).1 (nE (fun id => !ctn c.al id) (rF c.se n1).1.2.2.2) 1000 m'.p):=fA rfl
   have hr4:=HFC.out n1
   generalize rF c.cs n1=r at *
   obtain ⟨⟨r1,r2,r3,r4⟩,rd⟩:=r
   generalize rF c.se n1=s at *
   obtain ⟨⟨s1,s2,s3,s4⟩,sd⟩:=s
   simp only at HST hr4
   go_upto_region 4 with fail
   generalize wr.alloc (vN n1 n2 n3)=W4 at *
   have gB4:=kA hal gB
   have gD4:=kA hal HA.out.blk
   have g0B:=gB4
   have g0X:=gX5
   have hw4:=hal
   go_cut [6] (fun p wx=>∃ X a6 c6,p=.pointer (yA ⟨X,0,none⟩)/\jC (wx.heap[X]?=yA (qN r1 r2 r3 a6 r4.length c6))/\jC (wx.ownsRow W4.heap.size 3 1 (.slice a6 r4.length c6) r4.length (flat kG r4))/\r4.length<=1000000/\W4.heap.size<=X/\jC (Below W4.heap.size W4 wx))
   case first =>
    have Sf:∀ V,Below W4.heap.size W4 V -> (fun V:uA=>V.cell? ⟨w.heap.size,0,none⟩=yA (.pointer (yA ⟨D,0,none⟩))/\V.cell? ⟨D,4,none⟩=yA (.slice c.cA c.cs.length c.cc)/\V.cell? ⟨wr.heap.size,0,none⟩=yA (.int .i64 n1)) V:=fun V hV=>⟨jA (kA hV g0B) 0,jA (kA hV gD4) 4,jA (kA hV g0X) 0⟩
    have hb0:=(xC W4).drew
    have hbz:=(wA W4 (qN 0 0 0 none 0 0)).drew
    refine iC (S:=fun V:uA=>V.cell? ⟨w.heap.size,0,none⟩=yA (.pointer (yA ⟨D,0,none⟩))/\V.cell? ⟨D,4,none⟩=yA (.slice c.cA c.cs.length c.cc)/\V.cell? ⟨wr.heap.size,0,none⟩=yA (.int .i64 n1)) [] (Sf _ hb0) fun hH => ?_
    refine gU [100,1,2,3,104,5,106] ?_
    refine bU 7 11 (fun K hK => ?_) (fun K hK => ?_)
    ·go_simp
     (go_at_call 30;refine (HF.out _ (hw4.trans (hb0.mono hw4.size))).mono ?_;rintro e w3 ⟨a6,c6,rfl,own6,hl6,hb3⟩)
     have hS3:=hb0.trans hb3
     refine hK.out _ _ (Sf _ hS3) fun hH => ?_
     clear hK K
     refine gU [8,9,10] ?_
     refine oU 11 fun K hK => ?_
     go_simp
     refine hK.out _ _ (Sf _ (hS3.alloc hS3.size (qN 0 0 0 none 0 0))) fun hH => ?_
     clear hK K
     refine oU 12 fun K hK => ?_
     go_simp
     refine hK.out _ _ (Sf _ (hS3.alloc hS3.size (qN r1 r2 r3 a6 r4.length c6))) fun hH => ?_
     clear hK K
     refine gU [13,300] ?_
     go_wp2_with fail
     go_meet
     exact ⟨w3.heap.size,a6,c6,rfl,fA (rB w3 (qN r1 r2 r3 a6 r4.length c6)),fA (oC (jB own6 (wA w3 (qN r1 r2 r3 a6 r4.length c6))) (mA _)),hl6,hS3.size,fA (hS3.alloc hS3.size (qN r1 r2 r3 a6 r4.length c6))⟩
    ·go_simp
     refine hK.out _ _ (Sf _ hbz) fun hH => ?_
     clear hK K
     refine oU 7 fun K hK => ?_
     go_simp
     (go_at_call 30;refine (HF.out _ (hw4.trans (hbz.mono hw4.size))).mono ?_;rintro e w3 ⟨a6,c6,rfl,own6,hl6,hb3⟩)
     have hS3:=hbz.trans (hb3.mono hbz.size)
     have gX6:=kA hb3 (iB (rB W4 (qN 0 0 0 none 0 0)))
     obtain ⟨z0,z1,z2,z3,zf0,zf1,zf2,zf3,zl⟩:=nH gX6
     have hne:∀ x ∈ zB a6,x≠W4.heap.size:=fun x hx he=>by have h1:=(qC own6 x hx).1;rw [he] at h1;have h2:(W4.alloc (qN 0 0 0 none 0 0)).heap.size<=W4.heap.size:=h1;rw [wB] at h2;omega
     refine hK.out _ _ (Sf _ hS3) fun hH => ?_
     clear hK K
     refine gU [8,9,10] ?_
     refine oU 12 fun K hK => ?_
     go_simp
     refine hK.out _ _ (Sf _ (mN hS3 (mA _) (.int .i64 r1) (.int .i64 r2) (.int .u32 r3) (.slice a6 r4.length c6))) fun hH => ?_
     clear hK K
     refine gU [13,300] ?_
     go_wp2_with fail
     go_meet
     exact ⟨W4.heap.size,a6,c6,rfl,fA (pT gX6 _ _ _ _),fA (oC (rE (rE (rE (rE own6 hne 0 _) hne 1 _) hne 2 _) hne 3 _) hbz.size),hl6,mA _,fA (mN hS3 (mA _) _ _ _ _)⟩
   case rest =>
   obtain ⟨X6,a6,c6,rfl,G6,O6,hl6,hX6,HB6⟩:=hcut
   have hb6:=HB6.out
   have hw6:=hw4.trans (hb6.mono hw4.size)
   have g0B:=kA hb6 g0B
   have g0X:=kA hb6 g0X
   have gD5:=kA hw6 HA.out.blk
   generalize hwc:wc=W5 at *
   clear hwc
   have hw4:=hw6
   go_wp2_with fail
   have g0B5:=g0B
   go_cut [8] (fun p wx=>∃ X a6 c6,p=.pointer (yA ⟨X,0,none⟩)/\jC (wx.heap[X]?=yA (qN s1 s2 s3 a6 s4.length c6))/\jC (wx.ownsRow W5.heap.size 3 1 (.slice a6 s4.length c6) s4.length (flat kG s4))/\s4.length<=1000000/\W5.heap.size<=X/\jC (Below W5.heap.size W5 wx))
   case first =>
    have Sf:∀ V,Below W5.heap.size W5 V -> (fun V:uA=>V.cell? ⟨w.heap.size,0,none⟩=yA (.pointer (yA ⟨D,0,none⟩))/\V.cell? ⟨D,14,none⟩=yA (.slice c.sA c.se.length c.sc)/\V.cell? ⟨wr.heap.size,0,none⟩=yA (.int .i64 n1)) V:=fun V hV=>⟨jA (kA hV g0B) 0,jA (kA hV gD5) 14,jA (kA hV g0X) 0⟩
    have hb0:=(xC W5).drew
    have hbz:=(wA W5 (qN 0 0 0 none 0 0)).drew
    refine iC (S:=fun V:uA=>V.cell? ⟨w.heap.size,0,none⟩=yA (.pointer (yA ⟨D,0,none⟩))/\V.cell? ⟨D,14,none⟩=yA (.slice c.sA c.se.length c.sc)/\V.cell? ⟨wr.heap.size,0,none⟩=yA (.int .i64 n1)) [] (Sf _ hb0) fun hH => ?_
    refine gU [100,1,2,103,4,105] ?_
    refine bU 6 10 (fun K hK => ?_) (fun K hK => ?_)
    ·go_simp
     (go_at_call 30;refine (HF2.out _ (hw4.trans (hb0.mono hw4.size))).mono ?_;rintro e w3 ⟨a6,c6,rfl,own6,hl6,hb3⟩)
     have hS3:=hb0.trans hb3
     refine hK.out _ _ (Sf _ hS3) fun hH => ?_
     clear hK K
     refine gU [7,8,9] ?_
     refine oU 10 fun K hK => ?_
     go_simp
     refine hK.out _ _ (Sf _ (hS3.alloc hS3.size (qN 0 0 0 none 0 0))) fun hH => ?_
     clear hK K
     refine oU 11 fun K hK => ?_
     go_simp
     refine hK.out _ _ (Sf _ (hS3.alloc hS3.size (qN s1 s2 s3 a6 s4.length c6))) fun hH => ?_
     clear hK K
     refine gU [12,300] ?_
     go_wp2_with fail
     go_meet
     exact ⟨w3.heap.size,a6,c6,rfl,fA (rB w3 (qN s1 s2 s3 a6 s4.length c6)),fA (oC (jB own6 (wA w3 (qN s1 s2 s3 a6 s4.length c6))) (mA _)),hl6,hS3.size,fA (hS3.alloc hS3.size (qN s1 s2 s3 a6 s4.length c6))⟩
    ·go_simp
     refine hK.out _ _ (Sf _ hbz) fun hH => ?_
     clear hK K
     refine oU 6 fun K hK => ?_
     go_simp
     (go_at_call 30;refine (HF2.out _ (hw4.trans (hbz.mono hw4.size))).mono ?_;rintro e w3 ⟨a6,c6,rfl,own6,hl6,hb3⟩)
     have hS3:=hbz.trans (hb3.mono hbz.size)
     have gX6:=kA hb3 (iB (rB W5 (qN 0 0 0 none 0 0)))
     obtain ⟨z0,z1,z2,z3,zf0,zf1,zf2,zf3,zl⟩:=nH gX6
     have hne:∀ x ∈ zB a6,x≠W5.heap.size:=fun x hx he=>by have h1:=(qC own6 x hx).1;rw [he] at h1;have h2:(W5.alloc (qN 0 0 0 none 0 0)).heap.size<=W5.heap.size:=h1;rw [wB] at h2;omega
     refine hK.out _ _ (Sf _ hS3) fun hH => ?_
     clear hK K
     refine gU [7,8,9] ?_
     refine oU 11 fun K hK => ?_
     go_simp
     refine hK.out _ _ (Sf _ (mN hS3 (mA _) (.int .i64 s1) (.int .i64 s2) (.int .u32 s3) (.slice a6 s4.length c6))) fun hH => ?_
     clear hK K
     refine gU [12,300] ?_
     go_wp2_with fail
     go_meet
     exact ⟨W5.heap.size,a6,c6,rfl,fA (pT gX6 _ _ _ _),fA (oC (rE (rE (rE (rE own6 hne 0 _) hne 1 _) hne 2 _) hne 3 _) hbz.size),hl6,mA _,fA (mN hS3 (mA _) _ _ _ _)⟩
   case rest =>
   obtain ⟨X8,a8,c8,rfl,G8,O8,hl8,hX8,HB8⟩:=hcut
   have hb8:=HB8.out
   have hw8:=hw4.trans (hb8.mono hw4.size)
   have g0B:=kA hb8 g0B
   have g0X:=kA hb8 g0X
   have gD8:=kA hw8 HA.out.blk
   generalize hwc:wc=W6 at *
   clear hwc
   have g6:=kA hb8 G6.out
   obtain ⟨x6a,x6b,x6c,x6d,_⟩:=nH g6
   obtain ⟨x8a,x8b,x8c,x8d,_⟩:=nH G8.out
   have hB6:=jA g0B 0
   have hD13:=jA gD5 13
   have HDF:=fA (jV a8 c8 s4 W5.heap.size 178 #[.pointer (yA ⟨w.heap.size,0,none⟩)] (enters_of func178 (by kernel_rfl) rfl) (fun id => !ctn c.al id) W6 hb8.size O8.out hl8 (zPj w.heap.size D c.vA c.vc c.al W5 W6 (eB g0B5) (jA g0B5 0) (eB gD5) (jA gD5 13) (HA.out.al.1.below hw6) hb8))
   generalize hlv:nE (fun id => !ctn c.al id) s4=lives at *
   have hlvl:lives.length<=s4.length:=by rw [<- hlv];exact wJ _ _
   have HLV:=fA hlv
   have hsC:W5.heap.size<=W6.heap.size:=hb8.size
   clear hlv
   go_wp2_with (go_at_call 57;refine HDF.out.mono ?_;rintro e w7 ⟨rfl,own7,hb7⟩)
   have hb57:=hb8.trans hb7
   have hw7:=hw6.trans (hb57.mono hw6.size)
   have HA7:=fA (HA.out.below hw7)
   have h6s:W4.heap.size<=W5.heap.size:=hb6.size
   obtain ⟨k0,k1,k2,k3,k4⟩:=HA.out.lts
   have hSm:∀ x ∈ m'.S D,x<wr.heap.size:=fun x hx=>by
    rw [uQ.inS] at hx
    rcases hx with q | q | q | q
    ·omega
    ·exact k2 _ q
    ·exact k3 _ q
    ·exact k4 _ q
   have h4s:wr.heap.size<W4.heap.size:=eB gX5
   have hBm:w.heap.size ∉ m'.S D:=fun hc=>by
    rcases HR.out.fr _ hc with q | q
    ·exact hBD q
    ·omega
   have hge:∀ {x:Nat},wr.heap.size<=x -> x ∉ m'.S D:=fun hx hc=>by have:=hSm _ hc;omega
   have G57:=fA (kA hb57 (kA hb6 gX5))
   have G67:=fA (kA hb57 G6.out)
   have GB7:=fA (kA hb57 g0B5)
   have O67:=fA (jB O6.out hb57)
   have O87:=fA own7
   have hX6:wr.heap.size<=X6:=by omega
   have hk6:∀ x ∈ zB a6,x ∉ m'.S D:=fun x hx=>hge (by have:=(qC O6.out x hx).1;omega)
   have hk8:∀ x ∈ zB a8,x ∉ m'.S D:=fun x hx=>hge (by have:=(qC own7 x hx).1;omega)
   obtain ⟨out,hout⟩:∃ out,repL c (n1,n2,n3) (r1,r2,r3,r4) lives 1000 m'.p=out:=⟨_,rfl⟩
   have HOUT:jC (zKL c m'.p (n1,n2,n3)=out):=fA (by rw [HST.out,<- hout])
   have HX0:jC (repL c (n1,n2,n3) (r1,r2,r3,r4) lives (1000 - 0) m'.p=out):=fA hout
   have HI0:=fA (sG.refl HA7.out (xC w7))
   clear hout x6a x6b x6c x6d x8a x8b x8c x8d hB6 hD13 own7
   generalize hwo:wr=wo at *
   clear hwo
   go_loopw [11,12,13,14,15] (fun v11 v12 v13 v14 v15 wr=>∃ (j:Nat) (m2:uQ),j<=(tM m2.ls r1).length/\jC (repL c (n1,n2,n3) (r1,r2,r3,r4) lives (1000 - j) m2.p=out)/\jC (m2.ls.length<=100/\m2.ds.length<=N/\m2.os.length<=N+m2.ls.length/\m2.xs.length<=N)/\jC (sG Q base D c m' m2 w7 wr)) (fun _ _ _ _ _ wr=>1000 - zOx wr D)
   case atStart=>exact ⟨0,m',Nat.zero_le _,HX0,HN,HI0⟩
   case round =>
    clear HX0 HI0
    obtain ⟨j,m2,hj,HX,HM,HT⟩:=hrel
    have HC:=fA HT.out.at_
    have g5:=HT.out.chg.keep G57.out (hge (mA _))
    have g6:=HT.out.chg.keep G67.out (hge hX6)
    have gB:=HT.out.chg.keep GB7.out hBm
    have O6i:=fA (xE O67.out HT.out.chg hk6)
    have O8i:=fA (xE O87.out HT.out.chg hk8)
    obtain ⟨hq1,hq2,hq3,hq4⟩:=HM.out
    obtain ⟨cm,hcm⟩:∃ x,tM m2.ls r1=x:=⟨_,rfl⟩
    obtain ⟨gn,hgn⟩:∃ x,iM m2.ds r1=x:=⟨_,rfl⟩
    obtain ⟨nots,hnt⟩:∃ x,r4 ++ (cm ++ gn)=x:=⟨_,rfl⟩
    obtain ⟨lds,hlds⟩:∃ x,zH c.cs c.ns m2.ls=x:=⟨_,rfl⟩
    obtain ⟨⟨t1,is⟩,htg⟩:∃ x,yM c.ns c.al lds nots=x:=⟨_,rfl⟩
    obtain ⟨⟨f1,fe⟩,hfr⟩:∃ x,zZ m2.ls c.r.2.1 lives=x:=⟨_,rfl⟩
    have hcml:cm.length<=m2.ls.length:=by rw [<- hcm];unfold tM;rw [mC];exact eC _ _
    have hgl:gn.length<=m2.ds.length:=by rw [<- hgn];unfold iM;rw [mC];exact eC _ _
    have hntl:nots.length<=100000:=by rw [<- hnt,kB,kB];omega
    have HNT:jC ([r4,cm,gn].flatten=nots):=fA (by rw [<- hnt];simp)
    have hrg:=zCB c.cs c.ns m2.ls
    rw [hlds] at hrg
    have hll:=hrg.2
    rw [hcm] at hj
    have HX2:jC ((if n2+(cm.length:Int)<c.r.2.2.2.1 then (if is && fe && (copyS c.r c.t m2.p r1 r2 r3 f1 t1).2 then repL c (n1,n2,n3) (r1,r2,r3,r4) lives (1000 - (j+1)) (copyS c.r c.t m2.p r1 r2 r3 f1 t1).1 else m2.p) else m2.p)=out):=fA (by
     have q:=HX.out
     rw [show 1000 - j=(1000 - (j+1))+1 by omega] at q
     rw [repL] at q
     simp only [uQ.p,hcm,hgn,hnt,hlds,htg,hfr] at q ⊢
     exact q)
    have HCM:=fA (fun V (hb:Below wr.heap.size wr V)=>zEs D m2.lA m2.lc m2.ls r1 V (yB.of_own (jB HC.out.lo hb) (by omega)) (jA (kA hb HC.out.blk) 1))
    rw [hcm] at HCM
    have HGO:=fA (fun V (hb:Below wr.heap.size wr V)=>zIe m2.dA m2.dc m2.ds r1 V (yB.of_own (jB HC.out.dr hb) (by omega)))
    rw [hgn] at HGO
    have HLD:=fA (fun V (hb:Below wr.heap.size wr V)=>zEN D _ _ _ _ _ _ _ c.r c.t m2.lA c.nA c.cA m2.lc c.nc c.cc m2.ls c.ns c.cs V (kA hb HC.out.blk) (yB.of_own (jB HC.out.lo hb) (by omega)) (HC.out.ns.1.below hb) (HC.out.cs.in_.below hb) (by omega) hnl1 HOK.out.cs)
    rw [hlds] at HLD
    have HTG:=fA (fun V L lc A a (hb:Below wr.heap.size wr V) (f:yB zV V L lc lds) (f2:yB kG V A a nots)=>zFo c.nA c.vA L A c.nc c.vc lc a c.ns c.al lds nots V (HC.out.ns.1.below hb) (HC.out.al.1.below hb) f f2 HOK.out.ns (fun x hx=>(hrg.1 x hx).1))
    rw [htg] at HTG
    have HFR:=fA (fun V (hb:Below wr.heap.size wr V)=>zLT m2.lA m2.lc m2.ls a8 c8 lives c.r.2.1 V (yB.of_own (jB HC.out.lo hb) (by omega)) (yB.of_own (jB O8i.out hb) (by omega)) hq1)
    rw [hfr] at HFR
    have HCMQ:=fA hcm
    clear hcm hgn hnt hlds htg hfr hrg
    have hwa:IntKind.i64.wrap (n2+(cm.length:Int))=n2+(cm.length:Int):=oH (by omega) (by omega)
    have hb0:=xC wr
    have S7:∀ V,Below wr.heap.size wr V -> V.cell? ⟨w.heap.size,0,none⟩=yA (.pointer (yA ⟨D,0,none⟩))/\V.cell? ⟨wo.heap.size,1,none⟩=yA (.int .i64 n2)/\V.cell? ⟨X6,0,none⟩=yA (.int .i64 r1)/\V.cell? ⟨D,9,none⟩=yA (.int .i64 c.r.2.2.2.1):=fun V hV=>⟨jA (kA hV gB) 0,jA (kA hV g5) 1,jA (kA hV g6) 0,jA (kA hV HC.out.blk) 9⟩
    go_upto_region 7 with fail
    go_region_held3 (fun V=>V.cell? ⟨w.heap.size,0,none⟩=yA (.pointer (yA ⟨D,0,none⟩))/\V.cell? ⟨wo.heap.size,1,none⟩=yA (.int .i64 n2)/\V.cell? ⟨X6,0,none⟩=yA (.int .i64 r1)/\V.cell? ⟨D,9,none⟩=yA (.int .i64 c.r.2.2.2.1)) (first | exact S7 _ hb0.drew | exact S7 _ h8 | go_keep) (first
     | (go_at_call 179;refine (HCM.out _ hb0.drew).mono ?_;rintro e w8 ⟨A8,d8,rfl,own8,hb8'⟩;have h8:=hb0.drew.trans hb8'))
    by_cases hcd:n2+(cm.length:Int)<c.r.2.2.2.1
    ·have HX3:jC ((if is && fe && (copyS c.r c.t m2.p r1 r2 r3 f1 t1).2 then repL c (n1,n2,n3) (r1,r2,r3,r4) lives (1000 - (j+1)) (copyS c.r c.t m2.p r1 r2 r3 f1 t1).1 else m2.p)=out):=fA ((if_pos hcd).symm.trans HX2.out)
     have S8f:∀ V,Below w8.heap.size w8 V -> (fun V=>V.cell? ⟨X6,3,none⟩=yA (.slice a6 r4.length c6)/\V.cell? ⟨X6,0,none⟩=yA (.int .i64 r1)/\V.cell? ⟨w.heap.size,0,none⟩=yA (.pointer (yA ⟨D,0,none⟩))/\V.cell? ⟨D,2,none⟩=yA (.slice m2.dA m2.ds.length m2.dc)) V:=fun V hV=>by
      have q:=h8.trans (hV.mono h8.size)
      exact ⟨jA (kA q g6) 3,jA (kA q g6) 0,jA (kA q gB) 0,jA (kA q HC.out.blk) 2⟩
     have hc0:=xC w8
     have HF6:=fA (fun V (hb:Below wr.heap.size wr V)=>yB.of_own (enc:=kG) (jB O6i.out hb) (by omega))
     go_wp2_with fail
     go_region_held3 (fun V=>V.cell? ⟨X6,3,none⟩=yA (.slice a6 r4.length c6)/\V.cell? ⟨X6,0,none⟩=yA (.int .i64 r1)/\V.cell? ⟨w.heap.size,0,none⟩=yA (.pointer (yA ⟨D,0,none⟩))/\V.cell? ⟨D,2,none⟩=yA (.slice m2.dA m2.ds.length m2.dc)) (first | exact S8f _ hc0.drew | exact S8f _ h9 | exact S8f _ h10 | exact S8f _ (h10.alloc h10.size _) | exact S8f _ h11 | go_keep) (first
      | (go_at_call 179;((with_reducible refine (HCM.out _ (h8.trans (hc0.drew.mono h8.size))).mono ?_);rintro e w9 ⟨A9,c9,rfl,own9,hb9⟩);have h9:=hc0.drew.trans hb9)
      | (go_at_call 171;((with_reducible refine (HGO.out _ (h8.trans (h9.mono h8.size))).mono ?_);rintro e w10 ⟨A10,c10,rfl,own10,hb10⟩);have h10:=h9.trans (hb10.mono h9.size);have HCT:=fA (zNG w10.heap.size 3 [r4,cm,gn] [(a6,c6),(A9,c9),(A10,c10)] _ rfl (slc3 (HF6.out _ (h8.trans (h10.mono h8.size))) (yB.of_own (jB own9 hb10) (by omega)) (yB.of_own own10 (by omega))) (by rw [HNT.out];omega) (by omega));rw [HNT.out] at HCT)
      | (go_at_call 180;((with_reducible refine HCT.out.mono ?_);rintro e w11 ⟨A11,c11,rfl,own11,hb11⟩);have hral:=wA w10 (.cells #[.slice a6 r4.length c6,.slice A9 cm.length c9,.slice A10 gn.length c10] 63);have h11:=h10.trans ((hral.trans (hb11.mono hral.size)).mono h10.size)))
     have hll2:lds.length<=1000000:=by omega
     have hd0:=xC w11
     have S9f:∀ V,Below w11.heap.size w11 V -> (fun V=>V.cell? ⟨w.heap.size,0,none⟩=yA (.pointer (yA ⟨D,0,none⟩))/\V.cell? ⟨D,3,none⟩=yA (.slice c.nA c.ns.length c.nc)/\V.cell? ⟨D,13,none⟩=yA (.slice c.vA c.al.length c.vc)) V:=fun V hV=>by
      have q:=h8.trans ((h11.trans (hV.mono h11.size)).mono h8.size)
      exact ⟨jA (kA q gB) 0,jA (kA q HC.out.blk) 3,jA (kA q HC.out.blk) 13⟩
     have H811:=h8.trans (h11.mono h8.size)
     go_wp2_with fail
     go_region_held3 (fun V=>V.cell? ⟨w.heap.size,0,none⟩=yA (.pointer (yA ⟨D,0,none⟩))/\V.cell? ⟨D,3,none⟩=yA (.slice c.nA c.ns.length c.nc)/\V.cell? ⟨D,13,none⟩=yA (.slice c.vA c.al.length c.vc)) (first | exact S9f _ hd0.drew | exact S9f _ h12 | exact S9f _ h13 | go_keep) (first
      | (go_at_call 181;((with_reducible refine (HLD.out _ (H811.trans (hd0.drew.mono H811.size))).mono ?_);rintro e w12 ⟨A12,c12,rfl,own12,hb12⟩);have h12:=hd0.drew.trans hb12)
      | (go_at_call 122;((with_reducible refine (HTG.out _ _ _ _ _ (H811.trans (h12.mono H811.size)) (yB.of_own own12 (by omega)) (yB.of_own (jB own11 h12) (by omega))).mono ?_);rintro e w13 ⟨rfl,hb13⟩);have h13:=h12.trans (hb13.mono h12.size)))
     have H813:=H811.trans (h13.mono H811.size)
     have hf0:=xC w13
     have SAf:∀ V,Below w13.heap.size w13 V -> (fun V=>V.cell? ⟨w.heap.size,0,none⟩=yA (.pointer (yA ⟨D,0,none⟩))/\V.cell? ⟨D,1,none⟩=yA (.slice m2.lA m2.ls.length m2.lc)/\V.cell? ⟨D,7,none⟩=yA (.int .i64 c.r.2.1)) V:=fun V hV=>by
      have q:=H813.trans (hV.mono H813.size)
      exact ⟨jA (kA q gB) 0,jA (kA q HC.out.blk) 1,jA (kA q HC.out.blk) 7⟩
     go_wp2_with fail
     go_region_held3 (fun V=>V.cell? ⟨w.heap.size,0,none⟩=yA (.pointer (yA ⟨D,0,none⟩))/\V.cell? ⟨D,1,none⟩=yA (.slice m2.lA m2.ls.length m2.lc)/\V.cell? ⟨D,7,none⟩=yA (.int .i64 c.r.2.1)) (first | exact SAf _ hf0.drew | exact SAf _ h14 | go_keep) (first
      | (go_at_call 182;((with_reducible refine (HFR.out _ (H813.trans (hf0.drew.mono H813.size))).mono ?_);rintro e w14 ⟨rfl,hb14⟩);have h14:=hf0.drew.trans hb14))
     have H814:=H813.trans (h14.mono H813.size)
     have g6E:=kA H814 g6
     have hB14:=jA (kA H814 gB) 0
     obtain ⟨x6a,x6b,x6c,x6d,_⟩:=nH g6E
     have hol:m2.os.length<=100000:=by omega
     have HCP:=fA (zEu Q base D c m2 r1 r2 r3 f1 t1 a6 r4.length c6 _ (HC.out.below H814) HOK.out.r HOK.out.t hq1 hol)
     have HX4:jC (is=false\/fe=false -> m2.p=out):=fA (by
      intro hx
      have q:=HX3.out
      rw [if_neg (by rcases hx with rfl | rfl <;> simp)] at q
      exact q)
     cases is
     ·have hout:=HX4.out (.inl rfl)
      clear HCP
      go_wp2
      go_roundw
      case rel=>exact ⟨k+1,m2,by omega,by go_num,fA (by rw [HS.out,<- HP.out,HOUT.out];exact hout),HM,fA (HR.out.trans ((sG.refl HA.out hw7).trans (HT.out.trans (sG.refl HC.out H814))))⟩
      case measure=>simp [intOf];omega
     ·cases fe
      ·have hout:=HX4.out (.inr rfl)
       clear HCP
       go_wp2
       go_roundw
       case rel=>exact ⟨k+1,m2,by omega,by go_num,fA (by rw [HS.out,<- HP.out,HOUT.out];exact hout),HM,fA (HR.out.trans ((sG.refl HA.out hw7).trans (HT.out.trans (sG.refl HC.out H814))))⟩
       case measure=>simp [intOf];omega
      ·have hX5:=HX3.out
       have hok:=fun h=>zNP (r:=c.r) (t:=c.t) (p:=m2.p) (x1:=r1) (x2:=r2) (x3:=r3) (f:=f1) (g:=t1) h
       have hno:=fun h=>zNO (r:=c.r) (t:=c.t) (p:=m2.p) (x1:=r1) (x2:=r2) (x3:=r3) (f:=f1) (g:=t1) h
       clear HX3 HX4 HX2
       generalize copyS c.r c.t m2.p r1 r2 r3 f1 t1=cp at *
       obtain ⟨cp,ok⟩:=cp
       simp only [Bool.true_and] at hX5 hok hno
       cases ok
       ·have hno:=hno rfl
        have hout:m2.p=out:=hX5
        have HOK3:=fA hno
        have HOUT3:=fA hout
        clear hX5 hok hno hout
        go_wp2_with (go_at_call 183;refine HCP.out.mono ?_;rintro e w15 ⟨m3,rfl,hm3,HT3⟩;have HM3:=fA hm3;have HT3:=fA HT3;clear hm3)
        obtain ⟨e1,e2,e3,e4⟩:=copyQ (HM3.out.trans HOK3.out)
        go_roundw
        case rel=>exact ⟨k+1,m3,by omega,by go_num,fA (by rw [HS.out,<- HP.out,HOUT.out,HM3.out];exact HOK3.out.trans HOUT3.out),fA (by rw [e1,e2,e3,e4];exact HM.out),fA (HR.out.trans ((sG.refl HA.out hw7).trans (HT.out.trans ((sG.refl HC.out H814).trans HT3.out))))⟩
        case measure=>simp [intOf];omega
       ·have HOK3:=fA (hok rfl)
        have HOUT3:jC (repL c (n1,n2,n3) (r1,r2,r3,r4) lives (1000 - (j+1)) cp=out):=fA hX5
        clear hX5 hok hno
        go_wp2_with (go_at_call 183;refine HCP.out.mono ?_;rintro e w15 ⟨m3,rfl,hm3,HT3⟩;have HM3:=fA hm3;have HT3:=fA HT3;clear hm3)
        obtain ⟨x,o,hx1,hcp,hlt2⟩:=HOK3.out
        obtain ⟨e1,e2,e3,e4⟩:=zRu (HM3.out.trans hcp)
        have el:=zRd HT3.out.at_.blk
        have el2:=zRd HC.out.blk
        have hlt3:(m2.ls.length:Int)<c.r.2.2.1:=hlt2
        have hcm3:=zHK m2.ls x r1 hx1
        rw [HCMQ.out] at hcm3
        have q1:m3.ls.length=m2.ls.length+1:=by rw [e1,kB];rfl
        have q3:m3.os.length=m2.os.length+1:=by rw [e3,kB];rfl
        go_roundw
        case rel=>exact ⟨j+1,m3,by rw [e1,hcm3];omega,fA (by rw [HM3.out];exact HOUT3.out),fA ⟨by omega,by rw [e2];exact hq2,by omega,by rw [e4];exact hq4⟩,fA (HT.out.trans ((sG.refl HC.out H814).trans HT3.out))⟩
        case measure=>rw [el,el2];omega
    ·have hout:m2.p=out:=by have q:=HX2.out;rw [if_neg hcd] at q;exact q
     go_wp2
     go_roundw
     case rel=>exact ⟨k+1,m2,by omega,by go_num,fA (by rw [HS.out,<- HP.out,HOUT.out];exact hout),HM,fA (HR.out.trans ((sG.refl HA.out hw7).trans (HT.out.trans (sG.refl HC.out h8))))⟩
     case measure=>simp [intOf];omega
  ·have hk1:¬ (k:Int)<(nl.length:Int):=by omega
   have hke:k=nl.length:=by omega
   subst hke
   rw [List.take_of_length_le (mA _)] at HP
   go_wp2
   go_end0
   obtain ⟨q1,q2,q3,q4⟩:=HN.out
   exact ⟨m',rfl,HP.out,⟨q1,by omega,by omega,by omega⟩,HW0.out.trans HR.out⟩
end Go.Proofs.YtogbpifcmhafkaaGreat
