/-
  Part Bo of the proof.
-/
import Derived.Test.YtnljdkglncmfaaaGreatBj
import Derived.Lib.SlBytesConst
import Derived.Test.YtnljdkglncmfaaaGreatBl
import Derived.Test.YtnljdkglncmfaaaGreatBb
import Derived.Test.YtnljdkglncmfaaaGreatBk
import Derived.Test.YtnljdkglncmfaaaGreatBa
import Derived.Test.YtnljdkglncmfaaaGreatBn
import Derived.Deep.QuietTactic
import Derived.BigQuiet
namespace Go.Proofs.YtnljdkglncmfaaaGreat
open Go.RowKit
attribute [local go_sem ↓] Go.wp_at_zero Go.wp_at_succ
set_option maxHeartbeats 400000 in
theorem refOpen_any (a : Option Addr) (cap : Nat) (bs : List UInt8) (w : World) (hb : CellsB w a bs) (hz : a = none → bs.length = 0) (hcap : bs.length ≤ cap) (hl : bs.length ≤ 900000) :
    Calls Tryz.prog 150 #[.slice a bs.length cap] w (RetRowOk 5 1 (opened bs).length ((opened bs).map zX) (opens bs) w):=by
  by_cases h4:bs.length<4
  · have ho:opens bs=false:=by simp [opens];omega
    have HO:Hid (opened bs=[]∧opens bs=false):=⟨by simp [opened,ho],ho⟩
    clear ho hz hb
    have hd:decide ((bs.length:Int) - 4<0)=true:=by simp;omega
    go_enter Tryz.func150,Tryz.ntmps150
    go_wp2
    go_quiet (fail)
    go_wp2
    go_ret2
    rw [HO.out.1,HO.out.2]
    exact ⟨none,0,rfl,World.ownsRow_nil _ _ _ _,below_drewN (Below.refl _ _) _⟩
  · have hb4:CellsB w a (bs.take (bs.length - 4)):=by
      unfold CellsB at hb ⊢;rw [take_map_byte];exact hb.take _
    have hlen:(bs.take (bs.length - 4)).length=bs.length - 4:=by rw [List.length_take];omega
    have hn:((bs.length:Int) - 4).toNat=bs.length - 4:=by omega
    obtain ⟨b,off,rfl,hbl,_⟩:=hb.at (k:=0) (by omega)
    have hs:∀ w,CellsB w (some ⟨b,off,none⟩) (bs.take (bs.length - 4)) → Calls Tryz.prog 162 #[.slice (some ⟨b,off,none⟩) (bs.length - 4) cap] w (zAZ 5 1 (sealed (bs.take (bs.length - 4))).length ((sealed (bs.take (bs.length - 4))).map zX) w):=by
      intro w h
      have:=refSeal_any (some ⟨b,off,none⟩) cap (bs.take (bs.length - 4)) w h (by simp) (by omega)
      rw [zBV]
      rwa [hlen] at this ⊢
    have hcv:∀ W,Below w.heap.size w W → (convert 89 9 (.slice (some ⟨b,off,none⟩) bs.length cap)).run Tryz.prog W=.ok (.string (strOf bs)) W:=fun W hW=>run_convert_cells cap W (hb.below hW) hz
    have HS:=Lib.hid hs
    have HL:=Lib.hid hlen
    have HCV:=Lib.hid hcv
    have HZ:Hid (∀ (A:Option Addr) (cap:Nat) (W:World),W.ownsRow w.heap.size 5 1 (.slice A (sealed (bs.take (bs.length - 4))).length cap) (sealed (bs.take (bs.length - 4))).length ((sealed (bs.take (bs.length - 4))).map zX) → (convert 89 9 (.slice A (sealed (bs.take (bs.length - 4))).length cap)).run Tryz.prog W=.ok (.string (strOf (sealed (bs.take (bs.length - 4))))) W) :=
      fun A cap W h=>run_convert_cells cap W (RowAt.of_own h) (zBL h)
    have hd:decide ((bs.length:Int) - 4<0)=false:=by simp;omega
    have hi0:(0:Int)≤(bs.length:Int) - 4:=by omega
    have hi1:(bs.length:Int) - 4≤(cap:Int):=by omega
    have HQ:Hid ((!(strOf (sealed (bs.take (bs.length - 4)))).toList == (strOf bs).toList) = !decide (sealed (bs.take (bs.length - 4))=bs)):=str_test _ _
    have HO:Hid (opens bs=decide (sealed (bs.take (bs.length - 4))=bs)∧opened bs=if decide (sealed (bs.take (bs.length - 4))=bs)=true then bs.take (bs.length - 4) else []):=by
      have:opens bs=decide (sealed (bs.take (bs.length - 4))=bs):=by simp [opens];omega
      exact ⟨this,by rw [opened,this]⟩
    clear hs hlen hcv hz
    generalize decide (sealed (bs.take (bs.length - 4))=bs)=ok at HQ HO
    generalize sealed (bs.take (bs.length - 4))=sl at HS HQ HZ
    go_enter Tryz.func150,Tryz.ntmps150
    go_upto_region 2 with (fail)
    go_cut [19] (fun v wr=>v=.bool (!ok)∧Below w.heap.size w wr)
    case first =>
      have hcv:=HCV.out
      have hbr:Below w.heap.size w w.drew:=(Below.refl w.heap.size w).drew
      go_region_with (go_at_call 162;refine (HS.out _ (by exact hb4)).mono ?_;rintro e w1 ⟨a1,cap1,rfl,hown1,hb0⟩;have hb1:Below w.heap.size w w1:=hbr.trans hb0;have hcv1:=HZ.out _ _ _ hown1)
      all_goals (go_wp2_with fail;go_meet;exact ⟨congrArg Value.bool HQ.out,hb1⟩)
    case rest =>
      obtain ⟨rfl,hbc⟩:=hcut
      cases ok
      · go_wp2
        go_ret2
        rw [HO.out.1,HO.out.2]
        exact ⟨none,0,rfl,World.ownsRow_nil _ _ _ _,hbc⟩
      · go_wp2_with (at_builtin;refine zF rfl (.const (.slice none 0 0)) (.tmp 22) rfl elemB w.heap.size (.slice none 0 0) 0 [] (by rfl) (World.ownsRow_nil _ _ _ _) (some ⟨b,off,none⟩) (bs.length - 4) cap ((bs.take (bs.length - 4)).map zX) (by rfl) (by rw [List.length_map,HL.out];simp) (hb4.below hbc) (zAS _) (by unfold maxLen;omega) (by omega) (by have:=hbc.size;omega) (by simp) ?_;intro a1 c1 w1 hown1 hg1 hat1;simp only [Nat.zero_add,List.nil_append] at hown1)
        go_wp2
        go_ret2
        rw [HO.out.1,HO.out.2]
        simp only [if_true]
        rw [HL.out]
        exact ⟨a1,c1,rfl,hown1,Below.appended hbc (World.ownsRow_nil _ w.heap.size 5 1) hg1 hbc.size (Nat.le_refl _)⟩
end Go.Proofs.YtnljdkglncmfaaaGreat
namespace Go.Proofs.YtnljdkglncmfaaaGreat
open Go.RowKit
set_option linter.unusedVariables false
theorem put_parts {f:Fr} (h:putE f=0):(zCT f.1.toNat f.2.length).map zX=[.int .u8 83,.int .u8 f.1,.int .u8 ((f.2.length:Int) / 256),.int .u8 ((f.2.length:Int) % 256)]:=by
  have hp:=putE_zero h
  show [zX 83,zX (b8 f.1.toNat),zX (b8 (f.2.length / 256)),zX (b8 (f.2.length % 256))]=_
  unfold zX
  rw [zCO _ (by omega),zCO _ (by omega),zCO _ (by omega)]
  have e1:((f.1.toNat:Nat):Int)=f.1:=by omega
  rw [e1]
  rfl
set_option maxHeartbeats 1600000 in
theorem put_any (k : Int) (a : Option Addr) (cap : Nat) (bs : List UInt8) (w : World) (hb : CellsB w a bs) (hz : a = none → bs.length = 0) :
    Calls Tryz.prog 128 #[.agg #[.int .i64 k,.slice a bs.length cap]] w (RetRowE 5 1 (putB (k,bs)).length ((putB (k,bs)).map zX) (putE (k,bs)) w):=by
  have HZ:=Lib.hid hz
  clear hz
  by_cases h1:k<0
  · have he:Hid (putE (k,bs)=1∧putB (k,bs)=[]):=by
      have:putE (k,bs)=1:=by unfold putE;rw [if_pos (.inl h1)]
      exact ⟨this,putB_none (by omega)⟩
    clear hb
    go_enter Tryz.func128,Tryz.ntmps128
    go_wp2
    go_ret2
    rw [he.out.1,he.out.2]
    exact ⟨none,0,rfl,World.ownsRow_nil _ _ _ _,(Below.refl _ _).alloc (Nat.le_refl _) _⟩
  · by_cases h2:255<k
    · have he:Hid (putE (k,bs)=1∧putB (k,bs)=[]):=by
        have:putE (k,bs)=1:=by unfold putE;rw [if_pos (.inr h2)]
        exact ⟨this,putB_none (by omega)⟩
      clear hb
      go_enter Tryz.func128,Tryz.ntmps128
      go_wp2
      go_ret2
      rw [he.out.1,he.out.2]
      exact ⟨none,0,rfl,World.ownsRow_nil _ _ _ _,(Below.refl _ _).alloc (Nat.le_refl _) _⟩
    · by_cases h3:(4096:Int)<(bs.length:Int)
      · have he:Hid (putE (k,bs)=7∧putB (k,bs)=[]):=by
          have:putE (k,bs)=7:=by unfold putE;rw [if_neg (by omega),if_pos (by show 4096<bs.length;omega)]
          exact ⟨this,putB_none (by omega)⟩
        clear hb
        go_enter Tryz.func128,Tryz.ntmps128
        go_wp2
        go_ret2
        rw [he.out.1,he.out.2]
        exact ⟨none,0,rfl,World.ownsRow_nil _ _ _ _,(Below.refl _ _).alloc (Nat.le_refl _) _⟩
      · have h0:putE (k,bs)=0:=by unfold putE;rw [if_neg (by omega),if_neg (by show ¬ 4096<bs.length;omega)]
        have he:Hid (putE (k,bs)=0∧putB (k,bs)=sealed (zCT k.toNat bs.length ++ bs)):=⟨h0,putB_eq h0⟩
        have hp:=Lib.hid (put_parts h0)
        have hl:Hid ((zCT k.toNat bs.length ++ bs).length=4+bs.length):=by rw [Hid,List.length_append,headOf_length]
        have hs:Hid (∀ W A c,CellsB W A (zCT k.toNat bs.length ++ bs) → (A=none → 4+bs.length=0) → Calls Tryz.prog 143 #[.slice A (4+bs.length) c] W (zAZ 5 1 (putB (k,bs)).length ((putB (k,bs)).map zX) W)):=fun W A c h hz=>by
          have:=sealB_any A c (zCT k.toNat bs.length ++ bs) W h (by rw [hl.out];exact hz) (by rw [hl.out];omega)
          rw [he.out.2,zBV]
          rwa [hl.out] at this ⊢
        have hown0:=own_lit1 (w:=w) (base:=w.heap.size) (e:=5) (size:=1) (.cells #[.int .i64 k,.slice a bs.length cap] 156) #[.int .u8 83,.int .u8 k,.int .u8 ((bs.length:Int) / 256),.int .u8 ((bs.length:Int) % 256)] 4 (by omega) (by unfold maxLen;omega) rfl
        clear h0
        go_enter Tryz.func128,Tryz.ntmps128
        go_wp2_with (first
          | (at_builtin;refine zF rfl (.tmp 32) (.tmp 34) rfl elemB w.heap.size (.slice (some ⟨w.heap.size+1,0,none⟩) 4 4) 4 ((zCT k.toNat bs.length).map zX) (by rfl) (by rw [hp.out];exact hown0) a bs.length cap (bs.map zX) (by rfl) (by simp) ((RowAt.alloc hb _).alloc _) (zAS _) (by unfold maxLen;omega) (by omega) (by simp;omega) HZ.out ?_;intro a1 c1 w1 hown1 hg1 hat1;have hb1:Below w.heap.size w w1:=Below.appended (((Below.refl _ _).alloc (Nat.le_refl _) _).alloc (by simp) _) hown0 hg1 (by simp;omega) (Nat.le_refl _);rw [← List.map_append] at hown1;clear hat1 hg1)
          | (go_at_call 143;refine (hs.out _ a1 c1 (RowAt.of_own hown1) (zBL hown1)).mono ?_;rintro e w2 ⟨a2,c2,rfl,hown2,hb2⟩))
        go_ret2
        rw [he.out.1]
        exact ⟨a2,c2,rfl,zW hown2 hb1.size,bt hb1 hb2⟩
set_option maxHeartbeats 1600000 in
theorem refPut_any (k : Int) (a : Option Addr) (cap : Nat) (bs : List UInt8) (w : World) (hb : CellsB w a bs) (hz : a = none → bs.length = 0) :
    Calls Tryz.prog 149 #[.agg #[.int .i64 k,.slice a bs.length cap]] w (RetRowE 5 1 (putB (k,bs)).length ((putB (k,bs)).map zX) (putE (k,bs)) w):=by
  have HZ:=Lib.hid hz
  clear hz
  by_cases h1:k<0
  · have he:Hid (putE (k,bs)=1∧putB (k,bs)=[]):=by
      have:putE (k,bs)=1:=by unfold putE;rw [if_pos (.inl h1)]
      exact ⟨this,putB_none (by omega)⟩
    clear hb
    go_enter Tryz.func149,Tryz.ntmps149
    go_wp2
    go_ret2
    rw [he.out.1,he.out.2]
    exact ⟨none,0,rfl,World.ownsRow_nil _ _ _ _,(Below.refl _ _).alloc (Nat.le_refl _) _⟩
  · by_cases h2:255<k
    · have he:Hid (putE (k,bs)=1∧putB (k,bs)=[]):=by
        have:putE (k,bs)=1:=by unfold putE;rw [if_pos (.inr h2)]
        exact ⟨this,putB_none (by omega)⟩
      clear hb
      go_enter Tryz.func149,Tryz.ntmps149
      go_wp2
      go_ret2
      rw [he.out.1,he.out.2]
      exact ⟨none,0,rfl,World.ownsRow_nil _ _ _ _,(Below.refl _ _).alloc (Nat.le_refl _) _⟩
    · by_cases h3:(4096:Int)<(bs.length:Int)
      · have he:Hid (putE (k,bs)=7∧putB (k,bs)=[]):=by
          have:putE (k,bs)=7:=by unfold putE;rw [if_neg (by omega),if_pos (by show 4096<bs.length;omega)]
          exact ⟨this,putB_none (by omega)⟩
        clear hb
        go_enter Tryz.func149,Tryz.ntmps149
        go_wp2
        go_ret2
        rw [he.out.1,he.out.2]
        exact ⟨none,0,rfl,World.ownsRow_nil _ _ _ _,(Below.refl _ _).alloc (Nat.le_refl _) _⟩
      · have h0:putE (k,bs)=0:=by unfold putE;rw [if_neg (by omega),if_neg (by show ¬ 4096<bs.length;omega)]
        have he:Hid (putE (k,bs)=0∧putB (k,bs)=sealed (zCT k.toNat bs.length ++ bs)):=⟨h0,putB_eq h0⟩
        have hp:=Lib.hid (put_parts h0)
        have hl:Hid ((zCT k.toNat bs.length ++ bs).length=4+bs.length):=by rw [Hid,List.length_append,headOf_length]
        have hs:Hid (∀ W A c,CellsB W A (zCT k.toNat bs.length ++ bs) → (A=none → 4+bs.length=0) → Calls Tryz.prog 162 #[.slice A (4+bs.length) c] W (zAZ 5 1 (putB (k,bs)).length ((putB (k,bs)).map zX) W)):=fun W A c h hz=>by
          have:=refSeal_any A c (zCT k.toNat bs.length ++ bs) W h (by rw [hl.out];exact hz) (by rw [hl.out];omega)
          rw [he.out.2,zBV]
          rwa [hl.out] at this ⊢
        have hown0:=own_lit1 (w:=w) (base:=w.heap.size) (e:=5) (size:=1) (.cells #[.int .i64 k,.slice a bs.length cap] 156) #[.int .u8 83,.int .u8 k,.int .u8 ((bs.length:Int) / 256),.int .u8 ((bs.length:Int) % 256)] 4 (by omega) (by unfold maxLen;omega) rfl
        clear h0
        go_enter Tryz.func149,Tryz.ntmps149
        go_wp2_with (first
          | (at_builtin;refine zF rfl (.tmp 29) (.tmp 31) rfl elemB w.heap.size (.slice (some ⟨w.heap.size+1,0,none⟩) 4 4) 4 ((zCT k.toNat bs.length).map zX) (by rfl) (by rw [hp.out];exact hown0) a bs.length cap (bs.map zX) (by rfl) (by simp) ((RowAt.alloc hb _).alloc _) (zAS _) (by unfold maxLen;omega) (by omega) (by simp;omega) HZ.out ?_;intro a1 c1 w1 hown1 hg1 hat1;have hb1:Below w.heap.size w w1:=Below.appended (((Below.refl _ _).alloc (Nat.le_refl _) _).alloc (by simp) _) hown0 hg1 (by simp;omega) (Nat.le_refl _);rw [← List.map_append] at hown1;clear hat1 hg1)
          | (go_at_call 162;refine (hs.out _ a1 c1 (RowAt.of_own hown1) (zBL hown1)).mono ?_;rintro e w2 ⟨a2,c2,rfl,hown2,hb2⟩))
        go_ret2
        rw [he.out.1]
        exact ⟨a2,c2,rfl,zW hown2 hb1.size,bt hb1 hb2⟩
theorem ret_two_int {a b c:Int} (h:a=b):Ending.returned (.tuple #[.int .i64 a,.int .i64 c])=.returned (.tuple #[.int .i64 b,.int .i64 c]):=by rw [h]
theorem or_form (a b:Nat) (ha:a<256) (hb:b<256):bits .or .i64 ((a:Int) * 256) (b:Int)=((a * 256+b:Nat):Int):=by
  have hk:∀ n:Int,0≤n → n<2 ^ 62 → IntKind.i64.wrap n=n:=fun n h0 h1=>by rw [IntKind.wrap_i64];omega
  have:=bits_join .i64 62 (by decide) hk 8 ((a:Int) * 256) (b:Int) (by omega) (by omega) (by omega) (by omega) (by omega) (by omega)
  rw [this];omega
theorem CellsB.pick {w:World} {a:Option Addr} {bs:List UInt8} (h:CellsB w a bs) {b off:Nat} (ha:a=some ⟨b,off,none⟩) {k:Nat} (hk:k<bs.length):w.cell? ⟨b,off+k,none⟩=some (.int .u8 ((bs.getD k 0).toNat:Int)):=by
  obtain ⟨b',off',ha',_,hc⟩:=h.at hk
  rw [ha] at ha'
  cases ha'
  exact hc
set_option maxHeartbeats 1600000 in
theorem size_any (a : Option Addr) (cap : Nat) (bs : List UInt8) (w : World) (hb : CellsB w a bs) (hl : bs.length ≤ 900000) :
    Calls Tryz.prog 144 #[.slice a bs.length cap] w fun e w'=>e=.returned (.tuple #[.int .i64 (zAH bs),.int .i64 (zBS bs)])∧Below w.heap.size w w':=by
  by_cases h0:bs.length=0
  · have he:Hid (zBS bs=3∧zAH bs=0):=by
      have:zBS bs=3:=by unfold zBS;rw [if_pos h0]
      exact ⟨this,by unfold zAH;rw [if_neg (by omega)]⟩
    have ht:((bs.length:Int) == 0)=true:=by simp [h0]
    clear hb h0
    go_enter Tryz.func144,Tryz.ntmps144
    go_wp2
    go_ret2
    rw [he.out.1,he.out.2]
    exact ⟨rfl,Below.refl _ _⟩
  · have ht : ((bs.length : Int) == 0) = false := beq_eq_false_iff_ne.2 (by omega)
    have hp:0<bs.length:=by omega
    obtain ⟨b,off,rfl,hbl,hc0⟩:=hb.at hp
    have hc0':w.cell? ⟨b,off,none⟩=some (.int .u8 ((bs.getD 0 0).toNat:Int)):=hc0
    clear hc0
    by_cases h1:(bs.getD 0 0).toNat=83
    · by_cases h4:bs.length<4
      · have he:Hid (zBS bs=3∧zAH bs=0):=by
          have:zBS bs=3:=by unfold zBS;rw [if_neg h0,if_neg (fun h=>h h1),if_pos h4]
          exact ⟨this,by unfold zAH;rw [if_neg (by omega)]⟩
        have ht1:(((bs.getD 0 0).toNat:Int) != 83)=false:=by rw [h1];rfl
        have h4i:(bs.length:Int)<4:=by omega
        clear hb h1
        generalize (bs.getD 0 0).toNat=B0 at hc0' ht1
        go_enter Tryz.func144,Tryz.ntmps144
        go_wp2
        go_ret2
        rw [he.out.1,he.out.2]
        exact ⟨rfl,Below.refl _ _⟩
      · have hc2:=hb.pick rfl (k:=2) (by omega)
        have hc3:=hb.pick rfl (k:=3) (by omega)
        have HN:Hid (lenOf bs=(bs.getD 2 0).toNat * 256+(bs.getD 3 0).toNat):=rfl
        have hl2:=(bs.getD 2 0).toNat_lt
        have hl3:=(bs.getD 3 0).toNat_lt
        have ht1:(((bs.getD 0 0).toNat:Int) != 83)=false:=by rw [h1];rfl
        have h4i:(4:Int)≤(bs.length:Int):=by omega
        have hi2:(2:Int)<(bs.length:Int):=by omega
        have hi3:(3:Int)<(bs.length:Int):=by omega
        have hE:Hid (zBS bs=if 4096<lenOf bs then 7 else if bs.length<lenOf bs+8 then 3 else 0):=by
          unfold zBS;rw [Hid,if_neg h0,if_neg (fun h=>h h1),if_neg h4]
        clear h1 hb
        generalize (bs.getD 0 0).toNat=B0 at hc0' ht1
        generalize (bs.getD 2 0).toNat=B2 at hc2 HN hl2
        generalize (bs.getD 3 0).toNat=B3 at hc3 HN hl3
        have hor:=or_form B2 B3 hl2 hl3
        rw [← HN.out] at hor
        have hL:lenOf bs<65536:=by rw [HN.out];omega
        have hN:Hid (zAH bs=if zBS bs=0 then lenOf bs+8 else 0):=rfl
        clear HN
        generalize lenOf bs=L at hor hL hE hN
        by_cases h5:(4096:Int)<(L:Int)
        · have he:Hid (zBS bs=7∧zAH bs=0):=by
            have:zBS bs=7:=by rw [hE.out,if_pos (by omega)]
            exact ⟨this,by rw [hN.out,if_neg (by omega)]⟩
          go_enter Tryz.func144,Tryz.ntmps144
          go_wp2
          go_quiet (fail)
          go_wp2
          go_ret2
          rw [he.out.1,he.out.2]
          exact ⟨rfl,below_drewN (Below.refl _ _) _⟩
        · by_cases h6:(bs.length:Int)<(L:Int)+8
          · have he:Hid (zBS bs=3∧zAH bs=0):=by
              have:zBS bs=3:=by rw [hE.out,if_neg (by omega),if_pos (by omega)]
              exact ⟨this,by rw [hN.out,if_neg (by omega)]⟩
            go_enter Tryz.func144,Tryz.ntmps144
            go_wp2
            go_quiet (fail)
            go_wp2
            go_ret2
            rw [he.out.1,he.out.2]
            exact ⟨rfl,below_drewN (Below.refl _ _) _⟩
          · have he:Hid (zBS bs=0∧zAH bs=L+8):=by
              have:zBS bs=0:=by rw [hE.out,if_neg (by omega),if_neg (by omega)]
              exact ⟨this,by rw [hN.out,if_pos this]⟩
            go_enter Tryz.func144,Tryz.ntmps144
            go_wp2
            go_quiet (fail)
            go_wp2
            go_ret2
            rw [he.out.1,he.out.2]
            exact ⟨ret_two_int (by omega),below_drewN (Below.refl _ _) _⟩
    · have he:Hid (zBS bs=2∧zAH bs=0):=by
        have:zBS bs=2:=by unfold zBS;rw [if_neg h0,if_pos h1]
        exact ⟨this,by unfold zAH;rw [if_neg (by omega)]⟩
      have ht1:(((bs.getD 0 0).toNat:Int) != 83)=true:=by
        simp only [bne_iff_ne,ne_eq];omega
      clear hb h1
      generalize (bs.getD 0 0).toNat=B0 at hc0' ht1
      go_enter Tryz.func144,Tryz.ntmps144
      go_wp2
      go_ret2
      rw [he.out.1,he.out.2]
      exact ⟨rfl,Below.refl _ _⟩
def RetOn (base:Nat) (ys:List UInt8) (w:World) (en:Ending) (w':World):Prop:=∃ D c,en=.returned (.slice D ys.length c)∧w'.ownsRow base 5 1 (.slice D ys.length c) ys.length (ys.map zX)∧Below base w w'
def recP (k:Int) (ns:List Int):List UInt8:=putB (k,zCC (ns,[]))
theorem recP_le (k:Int) (ns:List Int):(recP k ns).length≤4104:=by
  unfold recP
  by_cases h:putE (k,zCC (ns,[]))=0
  · rw [putB_length h];have:=(putE_zero h).2.2;simp only at this ⊢;omega
  · rw [putB_none h];simp
theorem recP_eq {k:Int} {ns:List Int} (h:RecOk k ns):recP k ns=recB k ns:=by
  unfold recP recB
  rw [packB_eq (rec_pack h.2.2.1 h.2.2.2)]
set_option maxRecDepth 100000 in
set_option maxHeartbeats 3200000 in
theorem record_any (base:Nat) (D:Option Addr) (cD:Nat) (bs:List UInt8) (k:Int) (a:Option Addr) (c:Nat) (ns:List Int) (w:World)
    (hown:w.ownsRow base 5 1 (.slice D bs.length cD) bs.length (bs.map zX)) (hbs:base≤w.heap.size) (hi:IntsIn w a c ns) (hl:bs.length≤1000000) :
    Calls Tryz.prog 105 #[.slice D bs.length cD,.int .i64 k,.slice a ns.length c] w (RetOn base (bs ++ recP k ns) w):=by
  have HP:Hid (Calls Tryz.prog 127 #[.agg #[.slice a ns.length c,.slice none 0 0]] w (RetRowE 5 1 (zCC (ns,[])).length ((zCC (ns,[])).map zX) (zCD (ns,[])) w)):=fpack_any a c ns none 0 [] w hi .nil (fun _=>rfl)
  have HQ:Hid (∀ W a2 c2,W.ownsRow w.heap.size 5 1 (.slice a2 (zCC (ns,[])).length c2) (zCC (ns,[])).length ((zCC (ns,[])).map zX) → Calls Tryz.prog 128 #[.agg #[.int .i64 k,.slice a2 (zCC (ns,[])).length c2]] W (RetRowE 5 1 (recP k ns).length ((recP k ns).map zX) (putE (k,zCC (ns,[]))) W)):=fun W a2 c2 h=>put_any k a2 c2 (zCC (ns,[])) W (RowAt.of_own h) (zBL h)
  have hrl:=recP_le k ns
  clear hi
  generalize putE (k,zCC (ns,[]))=pe at HQ
  generalize zCC (ns,[])=P at HP HQ
  generalize zCD (ns,[])=qe at HP
  generalize recP k ns=Z at HQ hrl ⊢
  have hzl:(bs ++ Z).length=bs.length+Z.length:=List.length_append
  have HZL:=Lib.hid hzl
  clear hzl
  go_enter Tryz.func105,Tryz.ntmps105
  go_wp2_with (first
    | (go_at_call 127;refine HP.out.mono ?_;rintro en w1 ⟨a1,c1,rfl,own1,hb1⟩)
    | (go_at_call 128;refine (HQ.out _ a1 c1 own1).mono ?_;rintro en w2 ⟨a2,c2,rfl,own2,hb2⟩;have hb:=hb1.trans (hb2.mono hb1.size);have hownD:=zD hown hb;have hsz:=hb.size)
    | (at_builtin;refine zF rfl (.tmp 24) (.tmp 25) rfl elemB base (.slice D bs.length cD) bs.length (bs.map zX) (by rfl) hownD a2 Z.length c2 (Z.map zX) (by rfl) (by rw [List.length_map,Nat.mul_one]) (RowAt.of_own own2) (zAS _) (by unfold maxLen;omega) (by omega) (Nat.le_trans hbs hsz) (zBL own2) ?_;intro a3 c3 w3 hown3 hg3 hat3;have hb3:Below base w w3:=Below.appended (hb.mono hbs) hownD hg3 (Nat.le_trans hbs hsz) (Nat.le_refl _)))
  go_ret
  refine ⟨a3,c3,?_,?_,hb3⟩
  · rw [HZL.out];rfl
  · rw [HZL.out,List.map_append];exact hown3
set_option maxRecDepth 100000 in
set_option maxHeartbeats 12800000 in
theorem vstep_ent (R base F:Nat) (s:St) (x0 x1 x2 x3 x4 x5 x6 x7:Int) (d:Option Addr) (cd:Nat) (body:List UInt8) (w:World) (hs:StAt w R base s) (hRb:R<base) (hFR:F≤R) (hbs:base≤w.heap.size) (hok:StOk s)
    (hd:CellsB w d body) (hcap:body.length≤cd) (hz:d=none → body.length=0) (hlm:body.length≤1000000)
    (hun:zBD body=(0,[x0,x1,x2,x3,x4,x5,x6,x7],[])) (hx0:x0=(s.2.2.length:Int)+1) :
    Calls Tryz.prog 130 #[.pointer (some ⟨R,0,none⟩),.agg #[.int .i64 2,.slice d body.length cd]] w (RetStep R base F s (if mayL 0 0 (s.2.2 ++ [((x1,x2,x3,x4,x5,x6,x7):En)])=true then some (s.1,s.2.1,s.2.2 ++ [((x1,x2,x3,x4,x5,x6,x7):En)]) else none) w):=by
  have HU:Hid (∀ W,Below w.heap.size w W → Calls Tryz.prog 146 #[.slice d body.length cd] W (RetUn (zBD body) W)):=fun W h=>unpack_any d cd body W (hd.below h) hcap hz hlm
  have hF:F≤w.heap.size:=by omega
  obtain ⟨t0,v0,es⟩:=s
  obtain ⟨A,cap,g,hown⟩:=hs
  simp only at g hown hx0
  have h64:=(zAB hok.2).2.2.2.2.2.1
  simp only at h64
  have h64':(es.length:Int)≤64:=by omega
  simp only
  rw [hun] at HU
  clear hd hcap hz hlm hun
  have hx0':(x0 == (es.length:Int)+1)=true:=by rw [hx0];simp
  clear hx0
  have hel:(es ++ [((x1,x2,x3,x4,x5,x6,x7):En)]).length=es.length+1:=by simp
  have HEL:=Lib.hid hel
  have HM:Hid (∀ W a c,LogIn W a c (es ++ [((x1,x2,x3,x4,x5,x6,x7):En)]) → Calls Tryz.prog 91 #[.agg #[.int .i64 0,.int .i64 0,.slice a (es.length+1) c]] W fun e w'=>e=.returned (.bool (mayL 0 0 (es ++ [((x1,x2,x3,x4,x5,x6,x7):En)])))∧Below W.heap.size W w'):=fun W a c h=>by
    have:=may_any 0 0 a c (es ++ [((x1,x2,x3,x4,x5,x6,x7):En)]) W h
    rwa [hel] at this
  have HIN:Hid (∀ (W:World) a c,W.ownsRow base 42 7 (.slice a (es.length+1) c) (es.length+1) (ensV es ++ ensV [((x1,x2,x3,x4,x5,x6,x7):En)]) → LogIn W a c (es ++ [((x1,x2,x3,x4,x5,x6,x7):En)])):=fun W a c h=>by
    rw [← zBP,← hel] at h
    exact LogIn.of_own h
  have HAP:=Lib.hid (zBP es [((x1,x2,x3,x4,x5,x6,x7):En)])
  clear hel
  have hwr:=zS (x:=(es.length:Int)+1) (by omega) (by omega)
  cases hmv:mayL 0 0 (es ++ [((x1,x2,x3,x4,x5,x6,x7):En)]) with
  | false =>
    rw [hmv] at HM
    rw [if_neg (by decide)]
    clear hmv
    go_enter Tryz.func130,Tryz.ntmps130
    go_wp2_with (go_at_call 146;refine (HU.out _ (zC _ _)).mono ?_;rintro en w1 ⟨a1,c1,a2,c2,rfl,oi,ob,hb1⟩;have hb1':Below w.heap.size w w1:=zJ hb1;have hal:=zC w1 (.cells #[.slice a1 8 c1,.slice a2 0 c2] 153);have hbw:=hb1'.trans (hal.mono hb1'.size);have gR:=zA hbw g;have ownR:=zD hown hbw;have gB:=zH (zA hb1 (zG w (.cells #[.int .i64 2,.slice d body.length cd] 156))) (.cells #[.slice a1 8 c1,.slice a2 0 c2] 153);have gX:=zG w1 (.cells #[.slice a1 8 c1,.slice a2 0 c2] 153);have hci:=RowAt.below (RowAt.of_own oi) hal;obtain ⟨rc0,rc1,rc2,rf0,rf1,rf2,rlt⟩:=box3 gR;obtain ⟨bc0,bc1,bf0,bf1,blt⟩:=box2 gB;obtain ⟨xc0,xc1,xf0,xf1,xlt⟩:=box2 gX;have hbF:=hbw.mono hF)
    obtain ⟨nb,noff,ha0,hnlt,nc0⟩:=CellsI.at hci (k:=0) (by simp)
    subst ha0
    obtain ⟨_,_,ha1,_,nc1⟩:=CellsI.at hci (k:=1) (by simp)
    cases ha1
    obtain ⟨_,_,ha1,_,nc2⟩:=CellsI.at hci (k:=2) (by simp)
    cases ha1
    obtain ⟨_,_,ha1,_,nc3⟩:=CellsI.at hci (k:=3) (by simp)
    cases ha1
    obtain ⟨_,_,ha1,_,nc4⟩:=CellsI.at hci (k:=4) (by simp)
    cases ha1
    obtain ⟨_,_,ha1,_,nc5⟩:=CellsI.at hci (k:=5) (by simp)
    cases ha1
    obtain ⟨_,_,ha1,_,nc6⟩:=CellsI.at hci (k:=6) (by simp)
    cases ha1
    obtain ⟨_,_,ha1,_,nc7⟩:=CellsI.at hci (k:=7) (by simp)
    cases ha1
    rw [Nat.add_zero] at nc0
    simp only [List.getElem_cons_zero,List.getElem_cons_succ] at nc0 nc1 nc2 nc3 nc4 nc5 nc6 nc7
    have hnb:w.heap.size≤nb:=Nat.le_trans (zC w (.cells #[.int .i64 2,.slice d body.length cd] 156)).size (own_from oi (by simp) nb noff rfl)
    go_quiet (fail)
    clear hwr
    go_wp2
    have nk1:((w1.alloc (.cells #[.slice (some ⟨nb,noff,none⟩) ([x0,x1,x2,x3,x4,x5,x6,x7]:List Int).length c1,.slice a2 ([]:List UInt8).length c2] 153)).drewN nq).cell? ⟨nb,noff+1,none⟩=some (.int .i64 x1):=nc1
    have nk2:((w1.alloc (.cells #[.slice (some ⟨nb,noff,none⟩) ([x0,x1,x2,x3,x4,x5,x6,x7]:List Int).length c1,.slice a2 ([]:List UInt8).length c2] 153)).drewN nq).cell? ⟨nb,noff+2,none⟩=some (.int .i64 x2):=nc2
    have nk3:((w1.alloc (.cells #[.slice (some ⟨nb,noff,none⟩) ([x0,x1,x2,x3,x4,x5,x6,x7]:List Int).length c1,.slice a2 ([]:List UInt8).length c2] 153)).drewN nq).cell? ⟨nb,noff+3,none⟩=some (.int .i64 x3):=nc3
    have nk4:((w1.alloc (.cells #[.slice (some ⟨nb,noff,none⟩) ([x0,x1,x2,x3,x4,x5,x6,x7]:List Int).length c1,.slice a2 ([]:List UInt8).length c2] 153)).drewN nq).cell? ⟨nb,noff+4,none⟩=some (.int .i64 x4):=nc4
    have nk5:((w1.alloc (.cells #[.slice (some ⟨nb,noff,none⟩) ([x0,x1,x2,x3,x4,x5,x6,x7]:List Int).length c1,.slice a2 ([]:List UInt8).length c2] 153)).drewN nq).cell? ⟨nb,noff+5,none⟩=some (.int .i64 x5):=nc5
    have nk6:((w1.alloc (.cells #[.slice (some ⟨nb,noff,none⟩) ([x0,x1,x2,x3,x4,x5,x6,x7]:List Int).length c1,.slice a2 ([]:List UInt8).length c2] 153)).drewN nq).cell? ⟨nb,noff+6,none⟩=some (.int .i64 x6):=nc6
    have nk7:((w1.alloc (.cells #[.slice (some ⟨nb,noff,none⟩) ([x0,x1,x2,x3,x4,x5,x6,x7]:List Int).length c1,.slice a2 ([]:List UInt8).length c2] 153)).drewN nq).cell? ⟨nb,noff+7,none⟩=some (.int .i64 x7):=nc7
    have gRW:((w1.alloc (.cells #[.slice (some ⟨nb,noff,none⟩) ([x0,x1,x2,x3,x4,x5,x6,x7]:List Int).length c1,.slice a2 ([]:List UInt8).length c2] 153)).drewN nq).heap[R]?=some (.cells #[.int .i64 t0,.int .i64 v0,.slice A es.length cap] 96):=gR
    have ownW:((w1.alloc (.cells #[.slice (some ⟨nb,noff,none⟩) ([x0,x1,x2,x3,x4,x5,x6,x7]:List Int).length c1,.slice a2 ([]:List UInt8).length c2] 153)).drewN nq).ownsRow base 42 7 (.slice A es.length cap) es.length (ensV es):=ownR
    have hWF:Below F w ((w1.alloc (.cells #[.slice (some ⟨nb,noff,none⟩) ([x0,x1,x2,x3,x4,x5,x6,x7]:List Int).length c1,.slice a2 ([]:List UInt8).length c2] 153)).drewN nq):=Below.many hbF nq
    have hwW:Below w.heap.size w ((w1.alloc (.cells #[.slice (some ⟨nb,noff,none⟩) ([x0,x1,x2,x3,x4,x5,x6,x7]:List Int).length c1,.slice a2 ([]:List UInt8).length c2] 153)).drewN nq):=Below.many hbw nq
    have hnl:nb<((w1.alloc (.cells #[.slice (some ⟨nb,noff,none⟩) ([x0,x1,x2,x3,x4,x5,x6,x7]:List Int).length c1,.slice a2 ([]:List UInt8).length c2] 153)).drewN nq).heap.size:=hnlt
    have hbW:base≤((w1.alloc (.cells #[.slice (some ⟨nb,noff,none⟩) ([x0,x1,x2,x3,x4,x5,x6,x7]:List Int).length c1,.slice a2 ([]:List UInt8).length c2] 153)).drewN nq).heap.size:=Nat.le_trans hbs hbw.size
    clear nc0 nc1 nc2 nc3 nc4 nc5 nc6 nc7 gR ownR hbF gX gB hci rc0 rc1 rc2 rf0 rf1 rf2 rlt bc0 bc1 bf0 bf1 blt xc0 xc1 xf0 xf1 xlt hal hbw
    generalize ((w1.alloc (.cells #[.slice (some ⟨nb,noff,none⟩) ([x0,x1,x2,x3,x4,x5,x6,x7]:List Int).length c1,.slice a2 ([]:List UInt8).length c2] 153)).drewN nq)=W at *
    obtain ⟨rc0,rc1,rc2,rf0,rf1,rf2,rlt⟩:=box3 gRW
    have hRow:RowAt (W.drew.alloc (.cells #[.int .i64 x1,.int .i64 x2,.int .i64 x3,.int .i64 x4,.int .i64 x5,.int .i64 x6,.int .i64 x7] 42)) (some ⟨W.heap.size,0,none⟩) (ensV [((x1,x2,x3,x4,x5,x6,x7):En)]):=RowAt.new W.drew #[.int .i64 x1,.int .i64 x2,.int .i64 x3,.int .i64 x4,.int .i64 x5,.int .i64 x6,.int .i64 x7] 42
    have hAB:Below W.heap.size W (W.drew.alloc (.cells #[.int .i64 x1,.int .i64 x2,.int .i64 x3,.int .i64 x4,.int .i64 x5,.int .i64 x6,.int .i64 x7] 42)):=(zK W).drew.alloc (zK W).drew.size (.cells #[.int .i64 x1,.int .i64 x2,.int .i64 x3,.int .i64 x4,.int .i64 x5,.int .i64 x6,.int .i64 x7] 42)
    obtain ⟨jc0,jc1,jc2,_,_,_,_⟩:=box3 (zA hAB gRW)
    have hnA:(Value.slice A es.length cap).ownBlock≠some nb:=fun e=>by have:=(hown.lt _ e).2;omega
    have hAs:=hAB.size
    go_region_held3 (fun Z=>Z.cell? ⟨R,2,none⟩=some (.slice A es.length cap)∧Z.cell? ⟨nb,noff+1,none⟩=some (.int .i64 x1)∧Z.cell? ⟨nb,noff+2,none⟩=some (.int .i64 x2)∧Z.cell? ⟨nb,noff+3,none⟩=some (.int .i64 x3)∧Z.cell? ⟨nb,noff+4,none⟩=some (.int .i64 x4)∧Z.cell? ⟨nb,noff+5,none⟩=some (.int .i64 x5)∧Z.cell? ⟨nb,noff+6,none⟩=some (.int .i64 x6)∧Z.cell? ⟨nb,noff+7,none⟩=some (.int .i64 x7)) (first | exact ⟨rc2,nk1,nk2,nk3,nk4,nk5,nk6,nk7⟩ | exact ⟨kc2,nl1,nl2,nl3,nl4,nl5,nl6,nl7⟩ | go_keep) ((refine step_append_row2 rfl (.tmp 73) (.tmp 97) rfl zCX base (.slice A es.length cap) es.length (ensV es) (by rfl) (zD ownW hAB) ⟨W.heap.size,0,none⟩ 1 1 (ensV [((x1,x2,x3,x4,x5,x6,x7):En)]) (by rfl) (zAQ _) hRow (zCB _) (by decide) (by unfold maxLen;omega) (by omega) (Nat.le_trans hbW hAs) ?_;intro a3 c3 w3 hown3 hg3 own3;have hne:∀ j,j<base → (Value.slice A es.length cap).ownBlock≠some j:=(fun j hj e=>by have:=(ownW.lt _ e).1;omega);have gR3:=zY hg3 (zA hAB gRW) (hne _ hRb);have hw3:Below F w w3:=Below.appended (hWF.trans (hAB.mono (Nat.le_trans hF (hwW.size)))) (zD ownW hAB) hg3 (Nat.le_trans hF (Nat.le_trans hwW.size hAs)) (by omega);have nl1:w3.cell? ⟨nb,noff+1,none⟩=some (.int .i64 x1):=(World.grownBy.cell_far hg3 ⟨nb,noff+1,none⟩ (Nat.lt_of_lt_of_le hnl hAs) hnA.symm).trans (((bcell hAB).1 _ _ hnl).trans nk1);have nl2:w3.cell? ⟨nb,noff+2,none⟩=some (.int .i64 x2):=(World.grownBy.cell_far hg3 ⟨nb,noff+2,none⟩ (Nat.lt_of_lt_of_le hnl hAs) hnA.symm).trans (((bcell hAB).1 _ _ hnl).trans nk2);have nl3:w3.cell? ⟨nb,noff+3,none⟩=some (.int .i64 x3):=(World.grownBy.cell_far hg3 ⟨nb,noff+3,none⟩ (Nat.lt_of_lt_of_le hnl hAs) hnA.symm).trans (((bcell hAB).1 _ _ hnl).trans nk3);have nl4:w3.cell? ⟨nb,noff+4,none⟩=some (.int .i64 x4):=(World.grownBy.cell_far hg3 ⟨nb,noff+4,none⟩ (Nat.lt_of_lt_of_le hnl hAs) hnA.symm).trans (((bcell hAB).1 _ _ hnl).trans nk4);have nl5:w3.cell? ⟨nb,noff+5,none⟩=some (.int .i64 x5):=(World.grownBy.cell_far hg3 ⟨nb,noff+5,none⟩ (Nat.lt_of_lt_of_le hnl hAs) hnA.symm).trans (((bcell hAB).1 _ _ hnl).trans nk5);have nl6:w3.cell? ⟨nb,noff+6,none⟩=some (.int .i64 x6):=(World.grownBy.cell_far hg3 ⟨nb,noff+6,none⟩ (Nat.lt_of_lt_of_le hnl hAs) hnA.symm).trans (((bcell hAB).1 _ _ hnl).trans nk6);have nl7:w3.cell? ⟨nb,noff+7,none⟩=some (.int .i64 x7):=(World.grownBy.cell_far hg3 ⟨nb,noff+7,none⟩ (Nat.lt_of_lt_of_le hnl hAs) hnA.symm).trans (((bcell hAB).1 _ _ hnl).trans nk7);obtain ⟨kc0,kc1,kc2,kf0,kf1,kf2,klt⟩:=box3 gR3))
    have hsz3:=hw3.size
    go_wp2_with (go_at_call 91;refine (HM.out _ _ _ (HIN _ _ _ hown3)).mono ?_;rintro en w4 ⟨rfl,hb4⟩;have gR4:=zA hb4 gR3;have own4:=zD own3 hb4;have ownN:=zD hown3 hb4;have hw4:=hw3.trans (hb4.mono (Nat.le_trans hFR (Nat.le_of_lt (zB gR3))));obtain ⟨mc0,mc1,mc2,mf0,mf1,mf2,mlt⟩:=box3 gR4)
    go_ret
    exact ⟨rfl,⟨A,cap,gR4,own4⟩,hw4⟩
  | true =>
    rw [hmv] at HM
    rw [if_pos rfl]
    clear hmv
    go_enter Tryz.func130,Tryz.ntmps130
    go_wp2_with (go_at_call 146;refine (HU.out _ (zC _ _)).mono ?_;rintro en w1 ⟨a1,c1,a2,c2,rfl,oi,ob,hb1⟩;have hb1':Below w.heap.size w w1:=zJ hb1;have hal:=zC w1 (.cells #[.slice a1 8 c1,.slice a2 0 c2] 153);have hbw:=hb1'.trans (hal.mono hb1'.size);have gR:=zA hbw g;have ownR:=zD hown hbw;have gB:=zH (zA hb1 (zG w (.cells #[.int .i64 2,.slice d body.length cd] 156))) (.cells #[.slice a1 8 c1,.slice a2 0 c2] 153);have gX:=zG w1 (.cells #[.slice a1 8 c1,.slice a2 0 c2] 153);have hci:=RowAt.below (RowAt.of_own oi) hal;obtain ⟨rc0,rc1,rc2,rf0,rf1,rf2,rlt⟩:=box3 gR;obtain ⟨bc0,bc1,bf0,bf1,blt⟩:=box2 gB;obtain ⟨xc0,xc1,xf0,xf1,xlt⟩:=box2 gX;have hbF:=hbw.mono hF)
    obtain ⟨nb,noff,ha0,hnlt,nc0⟩:=CellsI.at hci (k:=0) (by simp)
    subst ha0
    obtain ⟨_,_,ha1,_,nc1⟩:=CellsI.at hci (k:=1) (by simp)
    cases ha1
    obtain ⟨_,_,ha1,_,nc2⟩:=CellsI.at hci (k:=2) (by simp)
    cases ha1
    obtain ⟨_,_,ha1,_,nc3⟩:=CellsI.at hci (k:=3) (by simp)
    cases ha1
    obtain ⟨_,_,ha1,_,nc4⟩:=CellsI.at hci (k:=4) (by simp)
    cases ha1
    obtain ⟨_,_,ha1,_,nc5⟩:=CellsI.at hci (k:=5) (by simp)
    cases ha1
    obtain ⟨_,_,ha1,_,nc6⟩:=CellsI.at hci (k:=6) (by simp)
    cases ha1
    obtain ⟨_,_,ha1,_,nc7⟩:=CellsI.at hci (k:=7) (by simp)
    cases ha1
    rw [Nat.add_zero] at nc0
    simp only [List.getElem_cons_zero,List.getElem_cons_succ] at nc0 nc1 nc2 nc3 nc4 nc5 nc6 nc7
    have hnb:w.heap.size≤nb:=Nat.le_trans (zC w (.cells #[.int .i64 2,.slice d body.length cd] 156)).size (own_from oi (by simp) nb noff rfl)
    go_quiet (fail)
    clear hwr
    go_wp2
    have nk1:((w1.alloc (.cells #[.slice (some ⟨nb,noff,none⟩) ([x0,x1,x2,x3,x4,x5,x6,x7]:List Int).length c1,.slice a2 ([]:List UInt8).length c2] 153)).drewN nq).cell? ⟨nb,noff+1,none⟩=some (.int .i64 x1):=nc1
    have nk2:((w1.alloc (.cells #[.slice (some ⟨nb,noff,none⟩) ([x0,x1,x2,x3,x4,x5,x6,x7]:List Int).length c1,.slice a2 ([]:List UInt8).length c2] 153)).drewN nq).cell? ⟨nb,noff+2,none⟩=some (.int .i64 x2):=nc2
    have nk3:((w1.alloc (.cells #[.slice (some ⟨nb,noff,none⟩) ([x0,x1,x2,x3,x4,x5,x6,x7]:List Int).length c1,.slice a2 ([]:List UInt8).length c2] 153)).drewN nq).cell? ⟨nb,noff+3,none⟩=some (.int .i64 x3):=nc3
    have nk4:((w1.alloc (.cells #[.slice (some ⟨nb,noff,none⟩) ([x0,x1,x2,x3,x4,x5,x6,x7]:List Int).length c1,.slice a2 ([]:List UInt8).length c2] 153)).drewN nq).cell? ⟨nb,noff+4,none⟩=some (.int .i64 x4):=nc4
    have nk5:((w1.alloc (.cells #[.slice (some ⟨nb,noff,none⟩) ([x0,x1,x2,x3,x4,x5,x6,x7]:List Int).length c1,.slice a2 ([]:List UInt8).length c2] 153)).drewN nq).cell? ⟨nb,noff+5,none⟩=some (.int .i64 x5):=nc5
    have nk6:((w1.alloc (.cells #[.slice (some ⟨nb,noff,none⟩) ([x0,x1,x2,x3,x4,x5,x6,x7]:List Int).length c1,.slice a2 ([]:List UInt8).length c2] 153)).drewN nq).cell? ⟨nb,noff+6,none⟩=some (.int .i64 x6):=nc6
    have nk7:((w1.alloc (.cells #[.slice (some ⟨nb,noff,none⟩) ([x0,x1,x2,x3,x4,x5,x6,x7]:List Int).length c1,.slice a2 ([]:List UInt8).length c2] 153)).drewN nq).cell? ⟨nb,noff+7,none⟩=some (.int .i64 x7):=nc7
    have gRW:((w1.alloc (.cells #[.slice (some ⟨nb,noff,none⟩) ([x0,x1,x2,x3,x4,x5,x6,x7]:List Int).length c1,.slice a2 ([]:List UInt8).length c2] 153)).drewN nq).heap[R]?=some (.cells #[.int .i64 t0,.int .i64 v0,.slice A es.length cap] 96):=gR
    have ownW:((w1.alloc (.cells #[.slice (some ⟨nb,noff,none⟩) ([x0,x1,x2,x3,x4,x5,x6,x7]:List Int).length c1,.slice a2 ([]:List UInt8).length c2] 153)).drewN nq).ownsRow base 42 7 (.slice A es.length cap) es.length (ensV es):=ownR
    have hWF:Below F w ((w1.alloc (.cells #[.slice (some ⟨nb,noff,none⟩) ([x0,x1,x2,x3,x4,x5,x6,x7]:List Int).length c1,.slice a2 ([]:List UInt8).length c2] 153)).drewN nq):=Below.many hbF nq
    have hwW:Below w.heap.size w ((w1.alloc (.cells #[.slice (some ⟨nb,noff,none⟩) ([x0,x1,x2,x3,x4,x5,x6,x7]:List Int).length c1,.slice a2 ([]:List UInt8).length c2] 153)).drewN nq):=Below.many hbw nq
    have hnl:nb<((w1.alloc (.cells #[.slice (some ⟨nb,noff,none⟩) ([x0,x1,x2,x3,x4,x5,x6,x7]:List Int).length c1,.slice a2 ([]:List UInt8).length c2] 153)).drewN nq).heap.size:=hnlt
    have hbW:base≤((w1.alloc (.cells #[.slice (some ⟨nb,noff,none⟩) ([x0,x1,x2,x3,x4,x5,x6,x7]:List Int).length c1,.slice a2 ([]:List UInt8).length c2] 153)).drewN nq).heap.size:=Nat.le_trans hbs hbw.size
    clear nc0 nc1 nc2 nc3 nc4 nc5 nc6 nc7 gR ownR hbF gX gB hci rc0 rc1 rc2 rf0 rf1 rf2 rlt bc0 bc1 bf0 bf1 blt xc0 xc1 xf0 xf1 xlt hal hbw
    generalize ((w1.alloc (.cells #[.slice (some ⟨nb,noff,none⟩) ([x0,x1,x2,x3,x4,x5,x6,x7]:List Int).length c1,.slice a2 ([]:List UInt8).length c2] 153)).drewN nq)=W at *
    obtain ⟨rc0,rc1,rc2,rf0,rf1,rf2,rlt⟩:=box3 gRW
    have hRow:RowAt (W.drew.alloc (.cells #[.int .i64 x1,.int .i64 x2,.int .i64 x3,.int .i64 x4,.int .i64 x5,.int .i64 x6,.int .i64 x7] 42)) (some ⟨W.heap.size,0,none⟩) (ensV [((x1,x2,x3,x4,x5,x6,x7):En)]):=RowAt.new W.drew #[.int .i64 x1,.int .i64 x2,.int .i64 x3,.int .i64 x4,.int .i64 x5,.int .i64 x6,.int .i64 x7] 42
    have hAB:Below W.heap.size W (W.drew.alloc (.cells #[.int .i64 x1,.int .i64 x2,.int .i64 x3,.int .i64 x4,.int .i64 x5,.int .i64 x6,.int .i64 x7] 42)):=(zK W).drew.alloc (zK W).drew.size (.cells #[.int .i64 x1,.int .i64 x2,.int .i64 x3,.int .i64 x4,.int .i64 x5,.int .i64 x6,.int .i64 x7] 42)
    obtain ⟨jc0,jc1,jc2,_,_,_,_⟩:=box3 (zA hAB gRW)
    have hnA:(Value.slice A es.length cap).ownBlock≠some nb:=fun e=>by have:=(hown.lt _ e).2;omega
    have hAs:=hAB.size
    go_region_held3 (fun Z=>Z.cell? ⟨R,2,none⟩=some (.slice A es.length cap)∧Z.cell? ⟨nb,noff+1,none⟩=some (.int .i64 x1)∧Z.cell? ⟨nb,noff+2,none⟩=some (.int .i64 x2)∧Z.cell? ⟨nb,noff+3,none⟩=some (.int .i64 x3)∧Z.cell? ⟨nb,noff+4,none⟩=some (.int .i64 x4)∧Z.cell? ⟨nb,noff+5,none⟩=some (.int .i64 x5)∧Z.cell? ⟨nb,noff+6,none⟩=some (.int .i64 x6)∧Z.cell? ⟨nb,noff+7,none⟩=some (.int .i64 x7)) (first | exact ⟨rc2,nk1,nk2,nk3,nk4,nk5,nk6,nk7⟩ | exact ⟨kc2,nl1,nl2,nl3,nl4,nl5,nl6,nl7⟩ | go_keep) ((refine step_append_row2 rfl (.tmp 73) (.tmp 97) rfl zCX base (.slice A es.length cap) es.length (ensV es) (by rfl) (zD ownW hAB) ⟨W.heap.size,0,none⟩ 1 1 (ensV [((x1,x2,x3,x4,x5,x6,x7):En)]) (by rfl) (zAQ _) hRow (zCB _) (by decide) (by unfold maxLen;omega) (by omega) (Nat.le_trans hbW hAs) ?_;intro a3 c3 w3 hown3 hg3 own3;have hne:∀ j,j<base → (Value.slice A es.length cap).ownBlock≠some j:=(fun j hj e=>by have:=(ownW.lt _ e).1;omega);have gR3:=zY hg3 (zA hAB gRW) (hne _ hRb);have hw3:Below F w w3:=Below.appended (hWF.trans (hAB.mono (Nat.le_trans hF (hwW.size)))) (zD ownW hAB) hg3 (Nat.le_trans hF (Nat.le_trans hwW.size hAs)) (by omega);have nl1:w3.cell? ⟨nb,noff+1,none⟩=some (.int .i64 x1):=(World.grownBy.cell_far hg3 ⟨nb,noff+1,none⟩ (Nat.lt_of_lt_of_le hnl hAs) hnA.symm).trans (((bcell hAB).1 _ _ hnl).trans nk1);have nl2:w3.cell? ⟨nb,noff+2,none⟩=some (.int .i64 x2):=(World.grownBy.cell_far hg3 ⟨nb,noff+2,none⟩ (Nat.lt_of_lt_of_le hnl hAs) hnA.symm).trans (((bcell hAB).1 _ _ hnl).trans nk2);have nl3:w3.cell? ⟨nb,noff+3,none⟩=some (.int .i64 x3):=(World.grownBy.cell_far hg3 ⟨nb,noff+3,none⟩ (Nat.lt_of_lt_of_le hnl hAs) hnA.symm).trans (((bcell hAB).1 _ _ hnl).trans nk3);have nl4:w3.cell? ⟨nb,noff+4,none⟩=some (.int .i64 x4):=(World.grownBy.cell_far hg3 ⟨nb,noff+4,none⟩ (Nat.lt_of_lt_of_le hnl hAs) hnA.symm).trans (((bcell hAB).1 _ _ hnl).trans nk4);have nl5:w3.cell? ⟨nb,noff+5,none⟩=some (.int .i64 x5):=(World.grownBy.cell_far hg3 ⟨nb,noff+5,none⟩ (Nat.lt_of_lt_of_le hnl hAs) hnA.symm).trans (((bcell hAB).1 _ _ hnl).trans nk5);have nl6:w3.cell? ⟨nb,noff+6,none⟩=some (.int .i64 x6):=(World.grownBy.cell_far hg3 ⟨nb,noff+6,none⟩ (Nat.lt_of_lt_of_le hnl hAs) hnA.symm).trans (((bcell hAB).1 _ _ hnl).trans nk6);have nl7:w3.cell? ⟨nb,noff+7,none⟩=some (.int .i64 x7):=(World.grownBy.cell_far hg3 ⟨nb,noff+7,none⟩ (Nat.lt_of_lt_of_le hnl hAs) hnA.symm).trans (((bcell hAB).1 _ _ hnl).trans nk7);obtain ⟨kc0,kc1,kc2,kf0,kf1,kf2,klt⟩:=box3 gR3))
    have hsz3:=hw3.size
    go_wp2_with (go_at_call 91;refine (HM.out _ _ _ (HIN _ _ _ hown3)).mono ?_;rintro en w4 ⟨rfl,hb4⟩;have gR4:=zA hb4 gR3;have own4:=zD own3 hb4;have ownN:=zD hown3 hb4;have hw4:=hw3.trans (hb4.mono (Nat.le_trans hFR (Nat.le_of_lt (zB gR3))));obtain ⟨mc0,mc1,mc2,mf0,mf1,mf2,mlt⟩:=box3 gR4)
    go_ret
    refine ⟨rfl,⟨a3,c3,?_,?_⟩,hw4.setCell (p:=⟨R,2,none⟩) hFR _⟩
    · simp only [Option.getD_some,HEL.out]
      exact zQ (i:=2) gR4 (.slice a3 (es.length+1) c3)
    · simp only [Option.getD_some,HEL.out,HAP.out]
      exact ownsRow_setCell_below ownN (a:=⟨R,2,none⟩) hRb _
end Go.Proofs.YtnljdkglncmfaaaGreat
