/-
  Part RhQ of the proof.
-/
import Derived.Test.YtnljdkglncmfaaaGreatGg
namespace Go.Proofs.YtnljdkglncmfaaaGreat
open Go.RowKit
set_option linter.unusedVariables false
set_option maxRecDepth 100000 in
set_option maxHeartbeats 6400000 in
theorem groupDoes_walk (many : Int) (ia : Option Addr) (ic : Nat) (its : List It) (w : World) (hits : ItemsIn w ia ic its) :
    Calls Tryz.prog 6 #[.int .i64 many,.slice ia its.length ic] w fun e w'=>e=.returned (.bool true)∧Below w.heap.size w w':=by
  by_cases q1:120<(its.length:Int)
  · clear hits
    go_enter Tryz.func6,Tryz.ntmps6
    go_wp2_with (go_at_call 10;refine (groupAwake_any _).mono ?_;rintro e w1 ⟨rfl,hb1⟩)
    go_ret
    exact ⟨rfl,hb1⟩
  by_cases hmany:many<1∨16<many
  · have HN:Hid (∀ W,Calls Tryz.prog 11 #[.int .i64 many] W fun e w'=>e=.returned (.tuple #[.pointer none,.int .i64 1])∧w'=W):=fun W=>gnew_no many W hmany
    have HN2:Hid (∀ W,Calls Tryz.prog 19 #[.int .i64 many] W fun e w'=>e=.returned (.tuple #[.pointer none,.int .i64 1])∧Below W.heap.size W w'):=fun W=>rgnew_no many W hmany
    clear hits hmany
    go_enter Tryz.func6,Tryz.ntmps6
    go_wp2_with (first
      | (go_at_call 10;refine (groupAwake_any _).mono ?_;rintro e w1 ⟨rfl,hb1⟩)
      | (go_at_call 11;refine (HN.out _).mono ?_;rintro e wx ⟨rfl,hwx⟩;subst hwx)
      | (go_at_call 19;refine (HN2.out _).mono ?_;rintro e w3 ⟨rfl,hb3⟩;have hw3:=hb1.trans (hb3.mono hb1.size)))
    go_ret
    exact ⟨rfl,hw3⟩
  obtain ⟨n,rfl⟩:∃ n:Nat,many=(n:Int):=⟨many.toNat,by omega⟩
  have hn1:1≤n:=by omega
  have hn16:n≤16:=by omega
  have HN:Hid (∀ W,Calls Tryz.prog 11 #[.int .i64 (n:Int)] W (RetGr n W)):=fun W=>gnew_any n W hn1 hn16
  have HN2:Hid (∀ (Q:Nat → Prop) W,(∀ x,W.heap.size≤x → Q x) → Calls Tryz.prog 19 #[.int .i64 (n:Int)] W (RetRGr Q n W)):=fun Q W hQ=>rgnew_any n W hn1 hn16 hQ
  have HI:=Lib.hid hits
  have hr0:=Lib.hid (Ran.new hn1 hn16)
  clear hits hmany
  go_enter Tryz.func6,Tryz.ntmps6
  go_wp2_with (first
    | (go_at_call 10;refine (groupAwake_any _).mono ?_;rintro e w1 ⟨rfl,hb1⟩;have HN1:=Lib.hid (HN.out w1))
    | (go_at_call 11;refine HN1.out.mono ?_;rintro e w2 ⟨G,L,rfl,h2,hf2,hb2⟩;have hw2:=hb1.trans (hb2.mono hb1.size);have HN3:=Lib.hid (HN2.out (fun x=>x ∉ gall G L) w2 (fun x hx hc=>(by have:=h2.gltAll x hc;omega))))
    | (go_at_call 19;refine HN3.out.mono ?_;rintro e w3 ⟨H,M,rfl,h3,hf3,hb3⟩;have hw3:=hw2.trans (hb3.mono hw2.size);have ht3:Both w.heap.size w3 G L H M (newGr n) (newGr n):=⟨h2.below hb3,h3,fun x hx=>(by have:=hf2 x hx;have:=hb1.size;omega),fun x hx=>(by have:=hf3 x hx;have:=hw2.size;omega)⟩))
  go_loopw [10] (fun j wr=>∃ (k:Nat) (L':GL) (M':RL) (g:Gr),k≤its.length∧j=.int .i64 (k:Int)∧Hid (Ran n k g)∧Both w.heap.size wr G L' H M' g g∧Below w.heap.size w wr) (fun j _=>its.length - (intOf j).toNat)
  case atStart=>exact ⟨0,L,M,newGr n,by omega,rfl,hr0,ht3,hw3⟩
  case round =>
    clear ht3 h2 h3 hf2 hf3 hw3 hw2 hb1 hb2 hb3 hr0
    obtain ⟨k,L4,M4,g,hk,rfl,HR,t4,hw4⟩:=hrel
    have hk0:(0:Int)≤(k:Int):=by omega
    by_cases hlt:k<its.length
    · have hk1:(k:Int)<(its.length:Int):=by omega
      obtain ⟨nb,noff,rfl,nlt,n0,n1,n2,n3⟩:=item_cells (HI.out.below hw4) hlt
      have HN5:=Lib.hid (HR.out.next (its[k]'hlt))
      have HDO:Hid (∀ W G L,GAt W G L g → Calls Tryz.prog 12 #[.pointer (some ⟨G,0,none⟩),itV (its[k]'hlt).1 (its[k]'hlt).2.1 (its[k]'hlt).2.2.1 (its[k]'hlt).2.2.2] W (RetE (g.does (its[k]'hlt).1 (its[k]'hlt).2.1 (its[k]'hlt).2.2.1 (its[k]'hlt).2.2.2) G L W)):=fun W G L h=>do_any HR.out.ok h _ _ _ _ (by have:=HR.out.net;omega)
      have HDR:Hid (∀ (Q:Nat → Prop) W H M,RGAt Q W H M g → (∀ x,W.heap.size≤x → Q x) → Calls Tryz.prog 20 #[.pointer (some ⟨H,0,none⟩),itV (its[k]'hlt).1 (its[k]'hlt).2.1 (its[k]'hlt).2.2.1 (its[k]'hlt).2.2.2] W (RetRG Q (g.does (its[k]'hlt).1 (its[k]'hlt).2.1 (its[k]'hlt).2.2.1 (its[k]'hlt).2.2.2).1 H M (.int .i64 (g.does (its[k]'hlt).1 (its[k]'hlt).2.1 (its[k]'hlt).2.2.1 (its[k]'hlt).2.2.2).2) W)):=fun Q W H M h hQ=>rgdo_any HR.out.ok h hQ _ _ _ _ (by have:=HR.out.net;omega)
      have HIT:=Lib.hid (fun (W:World) (hb:Below w.heap.size w W)=>item_cells (HI.out.below hb) hlt)
      generalize (its[k]'hlt)=it at *
      obtain ⟨t0,t1,t2,t3⟩:=it
      simp only at n0 n1 n2 n3 HDO HDR HIT
      have hg5:g.item (t0,t1,t2,t3)=(g.does t0 t1 t2 t3).1:=rfl
      rw [hg5] at HN5
      generalize g.does t0 t1 t2 t3=r5 at *
      obtain ⟨g5,e5⟩:=r5
      simp only at HN5 HDR
      clear hg5
      have HD4:=Lib.hid (HDO.out _ _ _ t4.a)
      have hz4:=hw4.size
      go_upto_region 15 with (first
        | (go_at_call 12;refine HD4.out.mono ?_;rintro e w5 ⟨rfl,L5,h5,S5⟩;have t5:=t4.stepA hz4 h5 S5;have hw5:Below w.heap.size w w5:=hw4.trans (S5.chg.to_below (fun x hx=>t4.ga x hx) hw4.size);clear n0 n1 n2 n3;obtain ⟨nb2,noff2,ne,nlt2,n0,n1,n2,n3⟩:=HIT.out w5 hw5;cases ne;have HD5:=Lib.hid (HDR.out _ _ _ _ t5.b t5.new))
        | (go_at_call 20;refine HD5.out.mono ?_;rintro e w6 ⟨M6,rfl,h6,S6⟩;have t6:=t5.stepB hw5.size h6 S6;have hw6:Below w.heap.size w w6:=hw5.trans (S6.chg.to_below (fun x hx=>t5.gb x hx) hw5.size)))
      clear n0 n1 n2 n3 nlt nlt2 S5 S6 h5 h6 t5 t4 HD4 HD5 hw5 hw4 HDO HDR
      have t6d:=t6.below (zK w6).drew
      have HWA:=Lib.hid (waiting_any t6d.a)
      have HLN:=Lib.hid (glen_any t6d.a)
      obtain ⟨d0,d1,d2,df0,df1,df2,dlt⟩:=t6.b.cells
      have T6:=Lib.hid t6
      clear t6 t6d
      go_region_held3 (fun W=>W.cell? ⟨H,0,none⟩=some (.slice (some ⟨M6.mo,0,none⟩) g5.ms.length M6.mc)∧W.cell? ⟨H,2,none⟩=some (.slice M6.na g5.net.length M6.nc)) (first | with_reducible exact ⟨d0,d2⟩ | go_keep) ((first
        | (go_at_call 21;refine HWA.out.mono ?_;rintro e wx ⟨rfl,hwx⟩;subst hwx)
        | (go_at_call 22;refine HLN.out.mono ?_;rintro e wx ⟨rfl,hwx⟩;subst hwx)))
      go_wp2
      have TD:=Lib.hid (T6.out.below (zK w6).drew)
      have hwD:Below w.heap.size w w6.drew:=hw6.drew
      go_loopw [13] (fun j wr=>∃ (m:Nat),m≤n+2∧j=.int .i64 (m:Int)∧Both w.heap.size wr G L5 H M6 g5 g5∧Below w.heap.size w wr) (fun j _=>(n+2) - (intOf j).toNat)
      case atStart=>exact ⟨0,by omega,rfl,TD.out,hwD⟩
      case round =>
        clear T6 TD hw6 hwD d0 d1 d2 df0 df1 df2 dlt HWA HLN
        obtain ⟨m,hm,rfl,t7,hw7⟩:=hrel
        have hgn:g5.ms.length≤16:=HN5.out.ok.n16
        have hgm:=Lib.hid HN5.out.many
        have hm0:(0:Int)≤(m:Int):=by omega
        have hwm:=zS (x:=(n:Int)+1) (by omega) (by omega)
        have hwm1:=zS (x:=(m:Int)+1) (by omega) (by omega)
        by_cases hmn:m≤n+1
        · have hmi:(m:Int)≤(n:Int)+1:=by omega
          by_cases hin:1≤m∧m≤n
          · obtain ⟨i,rfl⟩:∃ i:Nat,m=i+1:=⟨m - 1,by omega⟩
            have hii:i<g5.ms.length:=by have:=hgm.out;omega
            obtain ⟨p,hp⟩:∃ p,g5.ms[i]?=some p:=⟨_,List.getElem?_eq_getElem hii⟩
            have hpo:=HN5.out.ok.pair i p hp
            have hl64:=hpo.mb.len64
            have hs0:=hpo.mb.set0
            have hs64:=hpo.mb.set64
            have hle:(zBG p.1).length≤64:=by unfold zBG;rw [List.length_take];omega
            obtain ⟨r,hr⟩:=t7.b.rOf hp
            have hei:((i+1:Nat):Int)=(i:Int)+1:=by omega
            rw [hei] at hmi hm0 hwm1 ⊢
            have hi1:¬ (i:Int)+1<1:=by omega
            have hi2:(i:Int)+1≤(n:Int):=by omega
            have HS1:=Lib.hid (gsettled_any t7.a hgn hp hl64 hs0 hs64)
            have HS2:Hid (∀ W,Both w.heap.size W G L5 H M6 g5 g5 → Calls Tryz.prog 23 #[.pointer (some ⟨H,0,none⟩),.int .i64 ((i:Int)+1)] W fun e w'=>∃ A c,e=.returned (.slice A (zBG p.1).length c)∧LogIn w' A c (zBG p.1)∧Below W.heap.size W w'):=fun W h=>rgsettled_any h.b hgn hp hl64 hs0 hs64
            have HSM:Hid (∀ (es:List En) W A c A' c',es.length≤64 → RowAt W A (ensV es) → RowAt W A' (ensV es) → Calls Tryz.prog 16 #[.slice A es.length c,.slice A' es.length c'] W fun e w'=>e=.returned (.bool true)∧Below W.heap.size W w'):=fun es W A c A' c' hl r1 r2=>by
              have:=same_any A c es A' c' es W r1 r2 (by unfold maxLen;omega)
              rwa [show decide (es=es)=true from decide_eq_true rfl] at this
            have HLG:Hid (∀ W,Both w.heap.size W G L5 H M6 g5 g5 → Calls Tryz.prog 15 #[.pointer (some ⟨G,0,none⟩),.int .i64 ((i:Int)+1)] W (zAZ 42 7 p.1.log.length (ensV p.1.log) W)):=fun W h=>glog_any h.a hgn hp hl64
            have HRO:Hid (∀ W,Both w.heap.size W G L5 H M6 g5 g5 → Calls Tryz.prog 13 #[.pointer (some ⟨G,0,none⟩),.int .i64 ((i:Int)+1)] W fun e w'=>e=.returned (.int .i64 p.1.role)∧Below W.heap.size W w'):=fun W h=>grole_any h.a hgn hp
            have HBA:Hid (∀ W,Both w.heap.size W G L5 H M6 g5 g5 → Calls Tryz.prog 14 #[.pointer (some ⟨G,0,none⟩),.int .i64 ((i:Int)+1)] W fun e w'=>e=.returned (zV p.1.term p.1.vote)∧Below W.heap.size W w'):=fun W h=>gballot_any h.a hgn hp
            have HMA:Hid (∀ W,Both w.heap.size W G L5 H M6 g5 g5 → RMAt W r.b r.a p.1):=fun W h=>(h.b.mem i r p hr hp).1
            have hwi:=zS (x:=(i:Int)) (by omega) (by omega)
            go_upto_region 27 with (first
              | (go_at_call 17;refine HS1.out.mono ?_;rintro e w8 ⟨A8,c8,rfl,own8,hb8⟩;have t8:=t7.below hb8;have hw8:=hw7.trans (hb8.mono hw7.size);have HS8:=Lib.hid (HS2.out _ t8))
              | (go_at_call 23;refine HS8.out.mono ?_;rintro e w9 ⟨A9,c9,rfl,l9,hb9⟩;have t9:=t8.below hb9;have hw9:=hw8.trans (hb9.mono hw8.size);have HM9:=Lib.hid (HSM.out _ w9 A8 c8 A9 c9 hle (RowAt.of_own (zD own8 hb9)) l9.row))
              | (go_at_call 16;refine HM9.out.mono ?_;rintro e w10 ⟨rfl,hb10⟩;have t10:=t9.below hb10;have hw10:=hw9.trans (hb10.mono hw9.size);obtain ⟨d0,d1,d2,df0,df1,df2,dlt⟩:=t10.b.cells;obtain ⟨m0,m1,m2⟩:=t10.b.mcell hr))
            have T10:=Lib.hid t10
            have M10:=HMA.out _ t10
            have hwd:Below w.heap.size w w10.drew:=hw10.drew
            have HL10:=Lib.hid (HLG.out _ (t10.below (zK w10).drew))
            clear d0 d1 d2 df0 df1 df2 dlt m0 m1 m2
            obtain ⟨e0,e1,e2,e3,e4,e5',e6,e7,e8,e9,e10,e11,elt⟩:=zBA M10.blk
            have hlr:=M10.log.row
            clear M10 t10 t9 t8 HS1 HS8 HM9 own8 l9
            go_region_held3 (fun W=>W.cell? ⟨r.b,6,none⟩=some (.slice r.a.la p.1.log.length r.a.lc)) (first | with_reducible exact e6 | with_reducible exact q6 | go_keep) ((first
              | (go_at_call 15;refine HL10.out.mono ?_;rintro e w11 ⟨A11,c11,rfl,own11,hb11⟩;have t11:=(T10.out.below (zK w10).drew).below hb11;have hw11:=hwd.trans (hb11.mono hwd.size);have M11:=HMA.out _ t11;obtain ⟨q0,q1',q2,q3,q4,q5,q6,q7,q8,q9,q10,q11,qlt⟩:=zBA M11.blk;have HM11:=Lib.hid (HSM.out _ w11 A11 c11 r.a.la r.a.lc hl64 (RowAt.of_own own11) M11.log.row))
              | (go_at_call 16;refine HM11.out.mono ?_;rintro e w12 ⟨rfl,hb12⟩;have t12:=t11.below hb12;have hw12:=hw11.trans (hb12.mono hw11.size);have M12:=HMA.out _ t12;obtain ⟨q0,q1',q2,q3,q4,q5,q6,q7,q8,q9,q10,q11,qlt⟩:=zBA M12.blk)))
            go_upto_region 28 with fail
            have T12:=Lib.hid t12
            have hwe:Below w.heap.size w w12.drew:=hw12.drew
            have HR12:=Lib.hid (HRO.out _ (t12.below (zK w12).drew))
            clear t12 t11 M11 HM11 own11 HL10 T10 e0 e1 e2 e3 e4 e5' e6 e7 e8 e9 e10 e11 elt hlr
            go_region_held3 (fun W=>W.cell? ⟨r.b,2,none⟩=some (.int .i64 p.1.term)∧W.cell? ⟨r.b,3,none⟩=some (.int .i64 p.1.vote)∧W.cell? ⟨r.b,7,none⟩=some (.int .i64 p.1.role)) (first | with_reducible exact ⟨q2,q3,q7⟩ | with_reducible exact ⟨z2,z3,z7⟩ | go_keep) ((first
              | (go_at_call 13;refine HR12.out.mono ?_;rintro e w13 ⟨rfl,hb13⟩;have t13:=(T12.out.below (zK w12).drew).below hb13;have hw13:=hwe.trans (hb13.mono hwe.size);have M13:=HMA.out _ t13;obtain ⟨z0,z1,z2,z3,z4,z5,z6,z7,z8,z9,z10,z11,zlt⟩:=zBA M13.blk;have HB13:=Lib.hid (HBA.out _ t13))
              | (go_at_call 14;refine HB13.out.mono ?_;rintro e w14 ⟨rfl,hb14⟩;have t14:=t13.below hb14;have hw14:=hw13.trans (hb14.mono hw13.size);have M14:=HMA.out _ t14;obtain ⟨z0,z1,z2,z3,z4,z5,z6,z7,z8,z9,z10,z11,zlt⟩:=zBA M14.blk)))
            go_wp2
            go_roundw
            case rel=>exact ⟨i+2,by omega,by go_num,t14,hw14⟩
            case measure=>(simp [intOf];try omega)
          · have hno:(m:Int)<1∨(g5.ms.length:Int)<(m:Int):=by have:=hgm.out;omega
            have HS1:=Lib.hid (gsettled_no t7.a (m:Int) hno)
            have HS2:Hid (∀ W,Both w.heap.size W G L5 H M6 g5 g5 → Calls Tryz.prog 23 #[.pointer (some ⟨H,0,none⟩),.int .i64 (m:Int)] W fun e w'=>e=.returned (.slice none 0 0)∧Below W.heap.size W w'):=fun W h=>rgsettled_no h.b (m:Int) hno
            have HSM:Hid (∀ W,Calls Tryz.prog 16 #[.slice none 0 0,.slice none 0 0] W fun e w'=>e=.returned (.bool true)∧Below W.heap.size W w'):=fun W=>by
              have:=same_any none 0 [] none 0 [] W (.inl rfl) (.inl rfl) (Nat.zero_le _)
              simpa using this
            have HLG:Hid (∀ W,Both w.heap.size W G L5 H M6 g5 g5 → Calls Tryz.prog 15 #[.pointer (some ⟨G,0,none⟩),.int .i64 (m:Int)] W fun e w'=>e=.returned (.slice none 0 0)∧Below W.heap.size W w'):=fun W h=>glog_no h.a (m:Int) hno
            have HRO:Hid (∀ W,Both w.heap.size W G L5 H M6 g5 g5 → Calls Tryz.prog 13 #[.pointer (some ⟨G,0,none⟩),.int .i64 (m:Int)] W fun e w'=>e=.returned (.int .i64 0)∧Below W.heap.size W w'):=fun W h=>grole_no h.a (m:Int) hno
            have hcase:(m:Int)<1∨(¬ (m:Int)<1∧(n:Int)<(m:Int)):=by omega
            rcases hcase with q1 | ⟨q1,q2⟩
            all_goals (
              go_wp2_with (first
                | (go_at_call 17;refine HS1.out.mono ?_;rintro e w8 ⟨rfl,hb8⟩;have t8:=t7.below hb8;have hw8:=hw7.trans (hb8.mono hw7.size);have HS8:=Lib.hid (HS2.out _ t8))
                | (go_at_call 23;refine HS8.out.mono ?_;rintro e w9 ⟨rfl,hb9⟩;have t9:=t8.below hb9;have hw9:=hw8.trans (hb9.mono hw8.size);have HM9:=Lib.hid (HSM.out w9))
                | (go_at_call 16;refine HM9.out.mono ?_;rintro e w10 ⟨rfl,hb10⟩;have t10:=t9.below hb10;have hw10:=hw9.trans (hb10.mono hw9.size);have HL10:=Lib.hid (HLG.out _ t10))
                | (go_at_call 15;refine HL10.out.mono ?_;rintro e w11 ⟨rfl,hb11⟩;have t11:=t10.below hb11;have hw11:=hw10.trans (hb11.mono hw10.size);have HR11:=Lib.hid (HRO.out _ t11))
                | (go_at_call 13;refine HR11.out.mono ?_;rintro e w12 ⟨rfl,hb12⟩;have t12:=t11.below hb12;have hw12:=hw11.trans (hb12.mono hw11.size)))
              go_roundw
              case rel=>exact ⟨m+1,by omega,by go_num,t12,hw12⟩
              case measure=>(simp [intOf];try omega))
        · have hmi:¬ (m:Int)≤(n:Int)+1:=by omega
          go_wp2
          go_roundw
          case rel=>exact ⟨k+1,L5,M6,g5,by omega,by go_num,HN5,t7,hw7⟩
          case measure=>simp [intOf];omega
    · have hk1:¬ (k:Int)<(its.length:Int):=by omega
      go_wp2
      go_ret
      exact ⟨rfl,hw4⟩
end Go.Proofs.YtnljdkglncmfaaaGreat
