/-
  Part Fb of the proof.
-/
import Derived.Test.YtnljdkglncmfaaaGreatBk
import Derived.Test.YtnljdkglncmfaaaGreatBl
import Derived.Test.YtnljdkglncmfaaaGreatBo
import Derived.Test.YtnljdkglncmfaaaGreatBd
namespace Go.Proofs.YtnljdkglncmfaaaGreat
open Go.RowKit
set_option linter.unusedVariables false
theorem any_no {ns:List Int} (h:∀ n ∈ ns,0≤zBW n):(ns.any fun n=>decide (zBW n<0))=false:=by
  rw [Bool.eq_false_iff]
  intro h1
  obtain ⟨n,hn,h2⟩:=List.any_eq_true.1 h1
  have:=h n hn;have:=of_decide_eq_true h2;omega
theorem okay_goes {ns:List Int} {k:Nat} (hk:k<ns.length) (h:∀ n ∈ ns.take k,0≤zBW n) (h2:¬ zBW (ns[k]'hk)<0):∀ n ∈ ns.take (k+1),0≤zBW n:=by
  rw [List.take_add_one,List.getElem?_eq_getElem hk]
  intro n hn
  simp only [Option.toList_some,List.mem_append,List.mem_singleton] at hn
  rcases hn with hn | rfl
  · exact h n hn
  · omega
set_option maxHeartbeats 3200000 in
theorem frefPack_any (a : Option Addr) (c : Nat) (ns : List Int) (d : Option Addr) (cd : Nat) (bs : List UInt8) (w : World) (hi : IntsIn w a c ns) (hb : CellsB w d bs) (hz : d = none → bs.length = 0) :
    Calls Tryz.prog 148 #[.agg #[.slice a ns.length c,.slice d bs.length cd]] w (RetRowE 5 1 (zCC (ns,bs)).length ((zCC (ns,bs)).map zX) (zCD (ns,bs)) w):=by
  have HZ:=Lib.hid hz
  clear hz
  by_cases h1:(255:Int)<(ns.length:Int)
  · have he:Hid (zCD (ns,bs)=7∧zCC (ns,bs)=[]):=by
      have:zCD (ns,bs)=7:=if_pos (.inl (by show 255<ns.length;omega))
      exact ⟨this,packB_none (by omega)⟩
    clear hi hb
    go_enter Tryz.func148,Tryz.ntmps148
    go_wp2
    go_ret2
    rw [he.out.1,he.out.2]
    exact ⟨none,0,rfl,World.ownsRow_nil _ _ _ _,(Below.refl _ _).alloc (Nat.le_refl _) _⟩
  by_cases h2:(4096:Int)<(bs.length:Int)
  · have he:Hid (zCD (ns,bs)=7∧zCC (ns,bs)=[]):=by
      have:zCD (ns,bs)=7:=if_pos (.inr (by show 4096<bs.length;omega))
      exact ⟨this,packB_none (by omega)⟩
    clear hi hb
    go_enter Tryz.func148,Tryz.ntmps148
    go_wp2
    go_ret2
    rw [he.out.1,he.out.2]
    exact ⟨none,0,rfl,World.ownsRow_nil _ _ _ _,(Below.refl _ _).alloc (Nat.le_refl _) _⟩
  have HE0:Hid (zCD (ns,bs)=if ns.any (fun n=>decide (zBW n<0))=true then 1 else 0):=if_neg (by show ¬ (255<ns.length∨4096<bs.length);omega)
  have hcn:=hi.cells
  have HWF:=Lib.hid hi.wf
  clear hi
  go_enter Tryz.func148,Tryz.ntmps148
  go_wp2_with fail
  obtain ⟨F,hF⟩:∃ F,F=w.heap.size:=⟨_,rfl⟩
  obtain ⟨hc0,hc1,_,_,hFl⟩:=two_cells (w:=w) (x:=.slice a ns.length c) (y:=.slice d bs.length cd) (t:=153) (w1:=(w.alloc (.cells #[.slice a ns.length c,.slice d bs.length cd] 153)).alloc (.cells #[.int .u8 (ns.length:Int)] 5)) ((Below.refl _ _).alloc (Nat.le_refl _) _)
  have hbW:Below w.heap.size w ((w.alloc (.cells #[.slice a ns.length c,.slice d bs.length cd] 153)).alloc (.cells #[.int .u8 (ns.length:Int)] 5)):=((Below.refl _ _).alloc (Nat.le_refl _) _).alloc (by simp) _
  have hsz:((w.alloc (.cells #[.slice a ns.length c,.slice d bs.length cd] 153)).alloc (.cells #[.int .u8 (ns.length:Int)] 5)).heap.size=w.heap.size+2:=by simp
  have hbyte:(.int .u8 (ns.length:Int):Value)=zX (b8 ns.length):=by unfold zX;rw [b8_mod];congr 1;omega
  have hown:((w.alloc (.cells #[.slice a ns.length c,.slice d bs.length cd] 153)).alloc (.cells #[.int .u8 (ns.length:Int)] 5)).ownsRow (w.heap.size+1) 5 1 (.slice (some ⟨w.heap.size+1,0,none⟩) 1 1) 1 [zX (b8 ns.length)]:=by
    rw [← hbyte]
    exact own_lit1 _ _ 1 (Nat.le_refl _) (by decide) rfl
  have HBY:=Lib.hid hbyte
  generalize ((w.alloc (.cells #[.slice a ns.length c,.slice d bs.length cd] 153)).alloc (.cells #[.int .u8 (ns.length:Int)] 5))=W1 at hc0 hc1 hFl hbW hown hsz
  rw [← hF] at hc0 hc1 hFl hown hsz ⊢
  have HF:=Lib.hid hF
  have hFW:F+1≤W1.heap.size:=by omega
  clear hF hbyte hsz
  go_wp2_with fail
  go_loopw [4,5] (fun v i wr=>∃ (k:Nat) (X:List UInt8) (aL:Option Addr) (cL:Nat),k≤ns.length∧i=.int .i64 k∧v=.slice aL X.length cL∧X.length≤1+k * 8∧Hid (X=b8 ns.length :: (ns.take k).flatMap numB)∧Hid (∀ n ∈ ns.take k,0≤zBW n)∧wr.ownsRow (F+1) 5 1 (.slice aL X.length cL) X.length (X.map zX)∧Below (F+1) W1 wr) (fun _ i _=>ns.length - (intOf i).toNat)
  case atStart=>exact ⟨0,[b8 ns.length],_,1,by omega,rfl,rfl,by simp,by rw [Hid];simp,by intro n hn;simp at hn,hown,Below.refl _ _⟩
  case round =>
    obtain ⟨k,X,aL,cL,hk,rfl,rfl,hXl,HX,HO,hown,hbw⟩:=hrel
    have hc0r:wr.cell? ⟨F,0,none⟩=some (.slice a ns.length c):=by rw [(bcell hbw).1 _ _ (by omega)];exact hc0
    have hFr:F+1≤wr.heap.size:=Nat.le_trans hFW hbw.size
    have hbwr:Below w.heap.size w wr:=hbW.trans (hbw.mono (by have:=HF.out;omega))
    by_cases hlt:k<ns.length
    · obtain ⟨b,off,rfl,hblt,hc⟩:=hcn.at hlt
      have hwf:=HWF.out _ (List.getElem_mem hlt)
      have HT:=Lib.hid (nums_take hlt)
      have hb0:b<F:=by have:=HF.out;omega
      have hcW:wr.cell? ⟨b,off+k,none⟩=some (.int .i64 (ns[k]'hlt)):=by
        rw [(bcell hbw).1 _ _ (by omega),(bcell hbW).1 _ _ hblt];exact hc
      have hk0:(0:Int)≤(k:Int):=by omega
      have hk1:(k:Int)<(ns.length:Int):=by omega
      by_cases hp:zBW (ns[k]'hlt)<0
      · have HA:Hid (zCD (ns,bs)=1∧zCC (ns,bs)=[]):=by
          have:zCD (ns,bs)=1:=by rw [HE0.out,any_stops (p:=fun n=>decide (zBW n<0)) hlt (decide_eq_true hp)];rfl
          exact ⟨this,packB_none (by omega)⟩
        have HS:Hid (∀ W,Calls Tryz.prog 160 #[.int .i64 (ns[k]'hlt)] W fun e w'=>e=.returned (.int .i64 (zBW (ns[k]'hlt)))∧w'=W):=fun W=>refSize_any _ hwf W
        generalize zBW (ns[k]'hlt)=s at hp HS
        generalize (ns[k]'hlt)=x at hcW HS hc hwf HT
        clear hc hwf HT hc0 hc1
        go_wp2_with (go_at_call 160;refine (HS.out _).mono ?_;rintro e w' ⟨rfl,hw'⟩;obtain rfl:wr=w':=hw'.symm)
        go_ret2
        rw [HA.out.1,HA.out.2]
        exact ⟨none,0,rfl,World.ownsRow_nil _ _ _ _,hbwr⟩
      · have HO2:=Lib.hid (okay_goes hlt HO.out hp)
        have hx:0≤(ns[k]'hlt)∧(ns[k]'hlt)<72057594037927936:=by
          by_cases h4:(ns[k]'hlt)<0∨72057594037927936≤(ns[k]'hlt)
          · rw [sizeI_bad h4] at hp;omega
          · omega
        generalize (ns[k]'hlt)=x at hcW hwf hx HT hc HO2 hp
        have hso:=sizeI_ok hx.1 hx.2
        obtain ⟨m,rfl⟩:∃ m:Nat,x=(m:Int):=⟨x.toNat,by omega⟩
        rw [Int.toNat_natCast] at hso
        have HS:Hid (∀ W,Calls Tryz.prog 160 #[.int .i64 m] W fun e w'=>e=.returned (.int .i64 (dsz m:Int))∧w'=W):=fun W=>by
          have:=refSize_any m hwf W
          rwa [hso.1] at this
        obtain ⟨D,hD⟩:∃ D,D=dsz m:=⟨_,rfl⟩
        have HNB:Hid (numB (m:Int)=b8 D :: digs m D):=by rw [Hid,hD];rfl
        rw [← hD] at HS hso
        have h7:=hso.2
        have HDG:Hid (∀ W,Calls Tryz.prog 161 #[.int .i64 m,.int .i64 D] W (zAZ 5 1 D ((digs m D).map zX) W)):=fun W=>digits_any m D W (by omega) (by omega)
        have HDL:Hid ((digs m D).length=D):=zBU _ _ _
        clear hD hso hx hwf hc hp
        have HD8:Hid ((D:Int)=((b8 D).toNat:Int)):=by rw [Hid,b8_mod];omega
        obtain ⟨Y,hY⟩:∃ Y,Y=X ++ [b8 D]:=⟨_,rfl⟩
        obtain ⟨Z,hZ⟩:∃ Z,Z=Y ++ digs m D:=⟨_,rfl⟩
        have HYL:Hid (X.length+1=Y.length):=by rw [Hid,hY];simp
        have HYM:Hid (X.map zX ++ [zX (b8 D)]=Y.map zX):=by rw [Hid,hY];simp
        have HZL:Hid (Y.length+D=Z.length):=by rw [Hid,hZ,List.length_append,HDL.out]
        have HZM:Hid (Y.map zX ++ (digs m D).map zX=Z.map zX):=by rw [Hid,hZ];simp
        have HY:Hid (Z=b8 ns.length :: (ns.take (k+1)).flatMap numB):=by rw [Hid,hZ,hY,HX.out,HT.out,HNB.out];simp
        clear hY hZ
        go_wp2_with (first
          | (go_at_call 160;refine (HS.out _).mono ?_;rintro e w' ⟨rfl,hw'⟩;obtain rfl:wr=w':=hw'.symm)
          | (at_builtin;refine zF rfl (.tmp 37) (.tmp 40) rfl elemB (F+1) (.slice aL X.length cL) X.length (X.map zX) (by rfl) (hown.alloc _) (some ⟨_,0,none⟩) 1 1 [zX (b8 D)] (by rfl) (by rfl) (row_one _ _ _ HD8.out) (zAS [b8 D]) (by unfold maxLen;omega) (by omega) (by simp;omega) (by simp) ?_;intro a6 c6 w6 hown6 hg6 hat6;have hb6:Below (F+1) W1 w6:=Below.appended (hbw.alloc hFr _) (hown.alloc _) hg6 (by simp;omega) (Nat.le_refl _);rw [HYL.out,HYM.out] at hown6;rw [HYL.out];have hc06:w6.cell? ⟨F,0,none⟩=some (.slice (some ⟨b,off,none⟩) ns.length c):=by { rw [(bcell hb6).1 _ _ (by omega)];exact hc0 };have hcW6:w6.cell? ⟨b,off+k,none⟩=some (.int .i64 m):=by { rw [(bcell hb6).1 _ _ (by omega),← (bcell hbw).1 _ _ (by omega)];exact hcW })
          | (go_at_call 161;refine (HDG.out w6).mono ?_;rintro e w7 ⟨a7,c7,rfl,hown7,hd7⟩)
          | (at_builtin;refine zF rfl (.tmp 42) (.tmp 49) rfl elemB (F+1) (.slice a6 Y.length c6) Y.length (Y.map zX) (by rfl) (zD hown6 hd7) a7 D c7 ((digs m D).map zX) (by rfl) (by rw [List.length_map,HDL.out,Nat.mul_one]) (RowAt.of_own hown7) (zAS _) (by have:=HYL.out;unfold maxLen;omega) (by have:=HYL.out;omega) (by have:=hb6.size;have:=hd7.size;omega) (zBL hown7) ?_;intro a8 c8 w8 hown8 hg8 hat8;have hb8:Below (F+1) W1 w8:=Below.appended (hb6.trans (hd7.mono (by have:=hb6.size;omega))) (zD hown6 hd7) hg8 (by have:=hb6.size;have:=hd7.size;omega) (Nat.le_refl _);rw [HZL.out,HZM.out] at hown8;rw [HZL.out]))
        go_roundw
        case rel=>exact ⟨k+1,Z,a8,c8,by omega,by go_num,rfl,by have:=HYL.out;have:=HZL.out;omega,HY,HO2,hown8,hb8⟩
        case measure=>simp [intOf];omega
    · have hek:k=ns.length:=by omega
      have HX2:Hid (X=b8 ns.length :: ns.flatMap numB):=by have:=HX.out;rwa [hek,List.take_length] at this
      have he0:zCD (ns,bs)=0:=by
        have:=HO.out
        rw [hek,List.take_length] at this
        rw [HE0.out,any_no this];rfl
      have HE:=Lib.hid he0
      have HB:=Lib.hid (packB_eq he0)
      have hc1r:wr.cell? ⟨F,1,none⟩=some (.slice d bs.length cd):=by rw [(bcell hbw).1 _ _ (by omega)];exact hc1
      have HDG:Hid (∀ W,Calls Tryz.prog 161 #[.int .i64 bs.length,.int .i64 2] W (zAZ 5 1 2 ((digs bs.length 2).map zX) W)):=fun W=>digits_any bs.length 2 W (by omega) (by omega)
      have HDL:Hid ((digs bs.length 2).length=2):=zBU _ _ _
      obtain ⟨Y,hY⟩:∃ Y,Y=X ++ digs bs.length 2:=⟨_,rfl⟩
      obtain ⟨Z,hZ⟩:∃ Z,Z=Y ++ bs:=⟨_,rfl⟩
      have HYL:Hid (X.length+2=Y.length):=by rw [Hid,hY,List.length_append,HDL.out]
      have HYM:Hid (X.map zX ++ (digs bs.length 2).map zX=Y.map zX):=by rw [Hid,hY];simp
      have HZL:Hid (Y.length+bs.length=Z.length):=by rw [Hid,hZ];simp
      have HZM:Hid (Y.map zX ++ bs.map zX=Z.map zX):=by rw [Hid,hZ];simp
      have HPX:Hid (packX (ns,bs)=Z):=by rw [Hid,hZ,hY,HX2.out];rfl
      clear hek he0 hY hZ hc0
      go_wp2_with (first
        | (go_at_call 161;refine (HDG.out wr).mono ?_;rintro e w7 ⟨a7,c7,rfl,hown7,hd7⟩)
        | (at_builtin;refine zF rfl (.tmp 51) (.tmp 55) rfl elemB (F+1) (.slice aL X.length cL) X.length (X.map zX) (by rfl) (zD hown hd7) a7 2 c7 ((digs bs.length 2).map zX) (by rfl) (by rw [List.length_map,HDL.out]) (RowAt.of_own hown7) (zAS _) (by unfold maxLen;omega) (by omega) (by have:=hd7.size;omega) (zBL hown7) ?_;intro a8 c8 w8 hown8 hg8 hat8;have hb8:Below (F+1) W1 w8:=Below.appended (hbw.trans (hd7.mono hFr)) (zD hown hd7) hg8 (by have:=hd7.size;omega) (Nat.le_refl _);rw [HYL.out,HYM.out] at hown8;rw [HYL.out];have hc18:w8.cell? ⟨F,1,none⟩=some (.slice d bs.length cd):=by { rw [(bcell hb8).1 _ _ (by omega)];exact hc1 })
        | (at_builtin;refine zF rfl (.tmp 57) (.tmp 59) rfl elemB (F+1) (.slice a8 Y.length c8) Y.length (Y.map zX) (by rfl) hown8 d bs.length cd (bs.map zX) (by rfl) (by simp) (hb.below (hbW.trans (hb8.mono (by have:=HF.out;omega)))) (zAS _) (by have:=HYL.out;unfold maxLen;omega) (by have:=HYL.out;omega) (by have:=hb8.size;omega) HZ.out ?_;intro a9 c9 w9 hown9 hg9 hat9;have hb9:Below (F+1) W1 w9:=Below.appended hb8 hown8 hg9 (by have:=hb8.size;omega) (Nat.le_refl _);rw [HZL.out,HZM.out] at hown9;rw [HZL.out]))
      go_ret2
      rw [HE.out,HB.out,HPX.out]
      exact ⟨a9,c9,rfl,zW hown9 (by have:=HF.out;omega),hbW.trans (hb9.mono (by have:=HF.out;omega))⟩
def recZ (k:Int) (ns:List Int):List UInt8:=if zCD (ns,[])=0 then putB (k,zCC (ns,[])) else []
def recZok (k:Int) (ns:List Int):Bool:=decide (zCD (ns,[])=0) && decide (putE (k,zCC (ns,[]))=0)
set_option maxHeartbeats 3200000 in
theorem refRecord_any (k:Int) (a:Option Addr) (c:Nat) (ns:List Int) (w:World) (hi:IntsIn w a c ns) :
    Calls Tryz.prog 132 #[.int .i64 k,.slice a ns.length c] w (RetRowOk 5 1 (recZ k ns).length ((recZ k ns).map zX) (recZok k ns) w):=by
  have HP:Hid (Calls Tryz.prog 148 #[.agg #[.slice a ns.length c,.slice none 0 0]] w (RetRowE 5 1 (zCC (ns,[])).length ((zCC (ns,[])).map zX) (zCD (ns,[])) w)):=frefPack_any a c ns none 0 [] w hi .nil (fun _=>rfl)
  have HQ:Hid (∀ W a2 c2,W.ownsRow w.heap.size 5 1 (.slice a2 (zCC (ns,[])).length c2) (zCC (ns,[])).length ((zCC (ns,[])).map zX) → Calls Tryz.prog 149 #[.agg #[.int .i64 k,.slice a2 (zCC (ns,[])).length c2]] W (RetRowE 5 1 (putB (k,zCC (ns,[]))).length ((putB (k,zCC (ns,[]))).map zX) (putE (k,zCC (ns,[]))) W)):=fun W a2 c2 h=>refPut_any k a2 c2 (zCC (ns,[])) W (RowAt.of_own h) (zBL h)
  clear hi
  unfold recZ recZok
  generalize putB (k,zCC (ns,[]))=Z at HQ ⊢
  generalize putE (k,zCC (ns,[]))=pe at HQ ⊢
  generalize zCC (ns,[])=P at HP HQ
  by_cases hq:zCD (ns,[])=0
  · rw [if_pos hq,decide_eq_true hq]
    rw [hq] at HP
    clear hq
    go_enter Tryz.func132,Tryz.ntmps132
    go_wp2_with (first
      | (go_at_call 148;refine HP.out.mono ?_;rintro en w1 ⟨a1,c1,rfl,own1,hb1⟩)
      | (go_at_call 149;refine (HQ.out _ a1 c1 own1).mono ?_;rintro en w2 ⟨a2,c2,rfl,own2,hb2⟩))
    go_ret2
    refine ⟨a2,c2,?_,zW own2 hb1.size,hb1.trans (hb2.mono hb1.size)⟩
    rw [Bool.true_and,show decide (pe=0)=(pe == 0) by rw [Bool.eq_iff_iff];simp]
    rfl
  · rw [if_neg hq,decide_eq_false hq]
    have hq1:(zCD (ns,[]) != 0)=true:=by simpa using hq
    clear hq
    generalize zCD (ns,[])=qe at HP hq1
    go_enter Tryz.func132,Tryz.ntmps132
    go_wp2_with (go_at_call 148;refine HP.out.mono ?_;rintro en w1 ⟨a1,c1,rfl,own1,hb1⟩)
    go_ret2
    exact ⟨none,0,rfl,World.ownsRow_nil _ _ _ _,hb1⟩
set_option maxRecDepth 100000 in
set_option maxHeartbeats 12800000 in
theorem refCommon_any (a : Option Addr) (c : Nat) (es : List En) (a' : Option Addr) (c' : Nat) (fs : List En) (w : World) (hl : LogIn w a c es) (hm : LogIn w a' c' fs) (he : es.length ≤ 1000000) (hf : fs.length ≤ 1000000) :
    Calls Tryz.prog 133 #[.slice a es.length c,.slice a' fs.length c'] w fun e w'=>e=.returned (.int .i64 (zAC es fs:Nat))∧Below w.heap.size w w':=by
  obtain ⟨P,hP⟩:∃ P,P=zAC es fs:=⟨_,rfl⟩
  rw [← hP]
  have HP:=Lib.hid hP
  have HL:=Lib.hid hl
  have HM:=Lib.hid hm
  clear hP hl hm
  go_enter Tryz.func133,Tryz.ntmps133
  go_wp2
  go_loopw [5] (fun i wr=>∃ k:Nat,k≤es.length∧k≤fs.length∧i=.int .i64 k∧Hid (es.take k=fs.take k)∧Below w.heap.size w wr) (fun i _=>es.length - (intOf i).toNat)
  case atStart=>exact ⟨0,by omega,by omega,rfl,rfl,zK _⟩
  case round =>
    obtain ⟨k,hk1,hk2,rfl,HT,hbq⟩:=hrel
    have hk0:(0:Int)≤(k:Int):=by omega
    have HKP:Hid ((k<es.length → k<fs.length → es[k]?≠fs[k]?) → k=P):=fun h=>(HP.out.trans (commonN_eq hk1 hk2 HT.out h)).symm
    have HW:=zS (x:=(k:Int)+1) (by omega) (by omega)
    by_cases hlt1:k<es.length
    · by_cases hlt2:k<fs.length
      · obtain ⟨lb,loff,rfl,hlbl,f0,f1,f2,f3,f4,f5,f6⟩:=zAF (HL.out.row.below hbq) hlt1
        obtain ⟨mb,moff,rfl,hmbl,c0,c1,c2,c3,c4,c5,c6⟩:=zAF (HM.out.row.below hbq) hlt2
        have HG:Hid (es[k]'hlt1=fs[k]'hlt2 → es.take (k+1)=fs.take (k+1)):=take_eq_go hlt1 hlt2 HT.out
        have HN:Hid (es[k]'hlt1≠fs[k]'hlt2 → k=P):=fun h=>HKP.out (fun _ _=>by rw [List.getElem?_eq_getElem hlt1,List.getElem?_eq_getElem hlt2];exact fun e=>h (Option.some.inj e))
        generalize (es[k]'hlt1)=y at f0 f1 f2 f3 f4 f5 f6 HG HN
        generalize (fs[k]'hlt2)=x at c0 c1 c2 c3 c4 c5 c6 HG HN
        obtain ⟨x0,x1,x2,x3,x4,x5,x6⟩:=x
        obtain ⟨y0,y1,y2,y3,y4,y5,y6⟩:=y
        simp only at c0 c1 c2 c3 c4 c5 c6 f0 f1 f2 f3 f4 f5 f6
        have hkl1:(k:Int)<(es.length:Int):=by omega
        have hkl2:(k:Int)<(fs.length:Int):=by omega
        by_cases hxy:(y0,y1,y2,y3,y4,y5,y6)=(x0,x1,x2,x3,x4,x5,x6)
        · have HG2:=Lib.hid (HG.out hxy)
          simp only [Prod.mk.injEq] at hxy
          obtain ⟨rfl,rfl,rfl,rfl,rfl,rfl,rfl⟩:=hxy
          clear HN HG HKP
          go_wp2
          go_quiet (fail)
          go_wp2
          exact ⟨⟨k+1,by omega,by omega,by simp,HG2,Below.many hbq _⟩,by simp [intOf];omega⟩
        have HNE:=Lib.hid (HN.out hxy)
        have HXY:=Lib.hid hxy
        clear hxy HN HG HKP
        by_cases h0q:y0=x0
        rotate_left 1
        · have hq:(y0 == x0)=false:=by simpa using h0q
          clear h0q
          go_wp2
          go_quiet (fail)
          go_wp2
          go_ret
          exact ⟨by rw [HNE.out];rfl,Below.many hbq _⟩
        subst h0q
        by_cases h1q:y1=x1
        rotate_left 1
        · have hq:(y1 == x1)=false:=by simpa using h1q
          clear h1q
          go_wp2
          go_quiet (fail)
          go_wp2
          go_ret
          exact ⟨by rw [HNE.out];rfl,Below.many hbq _⟩
        subst h1q
        by_cases h2q:y2=x2
        rotate_left 1
        · have hq:(y2 == x2)=false:=by simpa using h2q
          clear h2q
          go_wp2
          go_quiet (fail)
          go_wp2
          go_ret
          exact ⟨by rw [HNE.out];rfl,Below.many hbq _⟩
        subst h2q
        by_cases h3q:y3=x3
        rotate_left 1
        · have hq:(y3 == x3)=false:=by simpa using h3q
          clear h3q
          go_wp2
          go_quiet (fail)
          go_wp2
          go_ret
          exact ⟨by rw [HNE.out];rfl,Below.many hbq _⟩
        subst h3q
        by_cases h4q:y4=x4
        rotate_left 1
        · have hq:(y4 == x4)=false:=by simpa using h4q
          clear h4q
          go_wp2
          go_quiet (fail)
          go_wp2
          go_ret
          exact ⟨by rw [HNE.out];rfl,Below.many hbq _⟩
        subst h4q
        by_cases h5q:y5=x5
        rotate_left 1
        · have hq:(y5 == x5)=false:=by simpa using h5q
          clear h5q
          go_wp2
          go_quiet (fail)
          go_wp2
          go_ret
          exact ⟨by rw [HNE.out];rfl,Below.many hbq _⟩
        subst h5q
        by_cases h6q:y6=x6
        rotate_left 1
        · have hq:(y6 == x6)=false:=by simpa using h6q
          clear h6q
          go_wp2
          go_quiet (fail)
          go_wp2
          go_ret
          exact ⟨by rw [HNE.out];rfl,Below.many hbq _⟩
        subst h6q
        exact (HXY.out rfl).elim
      · have HNE:=Lib.hid (HKP.out (fun _ h=>absurd h hlt2))
        have hkl1:(k:Int)<(es.length:Int):=by omega
        have hkl2:¬ (k:Int)<(fs.length:Int):=by omega
        go_wp2
        go_quiet (fail)
        go_wp2
        go_ret
        exact ⟨by rw [HNE.out];rfl,Below.many hbq _⟩
    · have HNE:=Lib.hid (HKP.out (fun h _=>absurd h hlt1))
      have hkl1:¬ (k:Int)<(es.length:Int):=by omega
      go_wp2
      go_quiet (fail)
      go_wp2
      go_ret
      exact ⟨by rw [HNE.out];rfl,Below.many hbq _⟩
end Go.Proofs.YtnljdkglncmfaaaGreat
