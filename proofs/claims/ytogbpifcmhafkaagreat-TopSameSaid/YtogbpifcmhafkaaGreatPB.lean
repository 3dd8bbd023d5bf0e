/-
 Part PB of the proof.
-/
import Derived.Test.YtogbpifcmhafkaaGreatPA
import Derived.OrdersHeld
import Derived.OrdersIn
import Derived.StillTail
open Array renaming getElem?_eq_none->cG,getElem?_eq_some_iff->yL,replicate->pL
open BitVec renaming ofNat->pF
open Bool renaming and_eq_true->kC
open Go renaming Act->lJ,Addr->mB,Calls->iA,HeadInv->lZ,Obj->bQ,Oper->zI,TypeId->tC,Value->uB,World->uA,YieldsIf->xR,maxLen->fC,mem_ready->pP,ready_mono->eO,undef->vB,wpOpIn->zCN
open Go.Act renaming put_comm->xP
open Go.Lib renaming run_eql_slice_nil->mE
open Go.Oper renaming semAt_eq->zBV
open Go.Region renaming Mode->oJ,binds->sL,noSelect->tF,noSelect_spec->jK,ready->sC,wanted->eD
open Go.RowKit renaming ownsRow_setCell_below->xS
open Go.RowKit.Below renaming refl->cC
open Go.Value renaming int->dD
open Go.World renaming ownsRow_lit->iL
open List renaming mem_singleton->xB
open Nat renaming le_refl->mA,lt_or_ge->kI
open Option renaming some->yA
namespace Go.Proofs.YtogbpifcmhafkaaGreat
open Go.RowKit Tryz
open Go.Lib(hid)
set_option linter.unusedVariables false
set_option linter.unusedSimpArgs false
set_option maxRecDepth 100000
set_option maxHeartbeats 16000000
theorem zIw (w : uA) :
  iA prog 148 #[] w fun e w'=>e=.returned (.agg zDX)/\Below w.heap.size w w':=by
 have E0:=hid zGy
 go_enter func148,ntmps148
 go_wp2
 rw [E0.out]
 go_loopw [4] (fun i wr=>∃ k:Nat,k<=16/\i=.int .i64 k/\wr=(w.alloc (.cells (zCL 0) 223)).alloc (.cells (zCL k) 223)) (fun i _=>16 - (intOf i).toNat)
 case atStart=>exact ⟨0,by omega,rfl,rfl⟩
 case round =>
  obtain ⟨k,hk,rfl,rfl⟩:=hrel
  by_cases hlt:k<16
  ·have HC:=hid (zQT k hlt)
   have HS:=hid (zPF k hlt)
   go_wp2
   go_loop [3,9] (fun x j=>∃ m:Nat,m<=4/\j=.int .i64 m/\x=.int .u32 (U (steps m (pF 32 k)))) (fun _ j=>4 - (intOf j).toNat)
   case atStart=>exact ⟨0,by omega,rfl,by rw [steps,zKW _ (by omega)]⟩
   case round =>
    obtain ⟨m,hm,rfl,rfl⟩:=hrel
    by_cases hlt:m<4
    ·have HF:=hid (zNa (steps m (pF 32 k)))
     have H0:=U0 (steps m (pF 32 k))
     generalize U (steps m (pF 32 k))=X at HF H0
     go_wp2
     go_round
     case rel=>exact ⟨m+1,by omega,by go_num,by rw [HF.out];rfl⟩
     case measure=>simp [intOf];omega
    ·obtain rfl:m=4:=by omega
     have hcell:=HC.out
     rw [nib] at HS
     generalize U (steps 4 (pF 32 k))=Y at HS
     go_wp2
     go_roundw
     case rel=>exact ⟨k+1,by omega,by go_num,by rw [HS.out]⟩
     case measure=>simp [intOf];omega
  ·obtain rfl:k=16:=by omega
   have ht:zCL 16=zQE:=zIv
   rw [ht,<- zGy,zQE]
   clear ht
   go_wp2
   refine bodyPost_ret (v:=.agg zQE) (by simp [results,results148,go_sem];rfl) rfl ⟨by rw [zIv],?_⟩
   exact ((cC _ _).alloc (mA _) _).alloc (by simp) _
theorem zPz (W:uA):(storeCells ⟨W.heap.size,0,none⟩ zDX.toList 0).run prog (W.alloc (.cells #[.int .u32 0,.int .u32 0,.int .u32 0,.int .u32 0,.int .u32 0,.int .u32 0,.int .u32 0,.int .u32 0,.int .u32 0,.int .u32 0,.int .u32 0,.int .u32 0,.int .u32 0,.int .u32 0,.int .u32 0,.int .u32 0] 223))=.ok () (W.alloc (.cells zDX 223)) :=
 run_storeCells_new W 223 #[.int .u32 0,.int .u32 0,.int .u32 0,.int .u32 0,.int .u32 0,.int .u32 0,.int .u32 0,.int .u32 0,.int .u32 0,.int .u32 0,.int .u32 0,.int .u32 0,.int .u32 0,.int .u32 0,.int .u32 0,.int .u32 0] zDX (by rw [zGm];kernel_rfl) (by rw [zGm];rfl) zOQ
theorem zOK (s:BitVec 32) (a:Option mB) (cap:Nat) (bs:List UInt8) (w:uA) (hb:bJ w a bs) (hl:bs.length<=1000000) :
  iA prog 77 #[.int .u32 (U s),.slice a bs.length cap] w fun e w'=>e=.returned (.int .u32 (U (more s bs)))/\Below w.heap.size w w':=by
 have hst:=zPz
 have hnot:=zGo s
 go_enter func77,ntmps77
 go_wp2
 refine zAm 0 (fun a' w'=>∃ (w1:uA) (k:Nat) (u2 u3 u8 u9 u10 u11 u12 u13 u14 u15 u16 u17 u18 u19 u20 u21 u22 u23 u24 u25 u26 u27 u28 u29 u30 u31 u32 u33 u34 u35 u36 u37 u38 u39:uB),Below w.heap.size w w1/\w'=w1.alloc (.cells zDX 223)/\k<=bs.length/\a'={ tmps:=#[.int .u32 (U s),.slice a bs.length cap,u2,u3,.int .u32 0,.pointer (yA ⟨w1.heap.size,0,none⟩),.int .u32 (U (reg (~~~ s) (bs.take k))),.int .i64 k,u8,u9,u10,u11,u12,u13,u14,u15,u16,u17,u18,u19,u20,u21,u22,u23,u24,u25,u26,u27,u28,u29,u30,u31,u32,u33,u34,u35,u36,u37,u38,u39],defers:=[] }) (fun a' _=>bs.length - (intOf (a'.tmps.getD 7 vB)).toNat) rfl ?_ ?_
 ·clear hst hnot
  rintro a' w' ⟨w1,k,u2,u3,u8,u9,u10,u11,u12,u13,u14,u15,u16,u17,u18,u19,u20,u21,u22,u23,u24,u25,u26,u27,u28,u29,u30,u31,u32,u33,u34,u35,u36,u37,u38,u39,hb1,rfl,hk,rfl⟩
  by_cases hlt:k<bs.length
  ·obtain ⟨b,off,rfl,hbl,hcell⟩:=hb.at hlt
   rw [<- hb1.cell (p:=⟨b,off+k,none⟩) hbl] at hcell
   have hbl1:b<w1.heap.size:=Nat.lt_of_lt_of_le hbl hb1.size
   obtain ⟨B,n1,n2,X1,X2,N1,N2,X3,hB,hB1,e1,p1,e2,q1,c1,e3,p2,e4,q2,c2,e5,HX⟩:=zIO (reg (~~~ s) (bs.take k)) (bs.getD k 0)
   rw [<- hB] at hcell
   rw [<- zFv _ _ _ hlt] at HX
   have HY:=hid HX
   clear hB HX hb
   go_wp2
   go_step3
   obtain rfl:=HY.out
   refine ⟨rfl,⟨w1,k+1,?_⟩,by simp [intOf];omega⟩
   repeat apply Exists.intro
   exact ⟨hb1,rfl,by omega,rfl⟩
  ·obtain rfl:k=bs.length:=by omega
   go_wp2
   simp only [Exit.jump]
   go_ret
   exact ⟨zQK (zGo (reg (~~~ s) bs)),(hb1.trans ((cC _ _).alloc (mA _) _ |>.mono hb1.size))⟩
 ·intro hp
  go_wp2_with ((go_at_call 148;refine (zIw _).mono ?_;rintro e w1 ⟨rfl,hb1⟩))
  go_step3
  refine (by assumption:∀ (a:lJ) (w:uA),_ -> _) _ _ (hp _ _ ⟨w1,0,?_⟩)
  repeat apply Exists.intro
  exact ⟨hb1,rfl,by omega,rfl⟩
def zOr (n:Int):uB:=.int .i64 n
def zDk (w:uA) (a:Option mB) (ns:List Int):Prop:=dC w a (ns.map zOr)
theorem zDk.at {w:uA} {a:Option mB} {ns:List Int} (h:zDk w a ns) {k:Nat} (hk:k<ns.length):∃ b off,a=yA ⟨b,off,none⟩/\b<w.heap.size/\w.cell? ⟨b,off+k,none⟩=yA (.int .i64 (ns[k]'hk)):=by
 refine dC.at h (u:=.int .i64 (ns[k]'hk)) ?_
 rw [List.getElem?_map,List.getElem?_eq_getElem hk]
 rfl
theorem zDk.below {w w1:uA} {a:Option mB} {ns:List Int} (h:zDk w a ns) (hb:Below w.heap.size w w1):zDk w1 a ns:=dC.below h hb
structure IntsIn (w:uA) (a:Option mB) (cap:Nat) (ns:List Int):Prop where
 cells:zDk w a ns
 cap:ns.length<=cap
 none_:a=none -> ns.length=0
 wf:∀ n ∈ ns,(Lit.int .i64 n).wf=true
theorem tN:oQ prog 63 3 (.int .i64 0) 1 8:=⟨underlying63,by kernel_rfl,rfl,by omega⟩
theorem zOs (ns:List Int):∀ u ∈ ns.map zOr,u.oneCell'=true:=by
 intro u hu
 obtain ⟨b,_,rfl⟩:=List.mem_map.1 hu
 rfl
structure zEh (w:uA) (a:Option mB) (cap:Nat) (es:List En):Prop where
 row:dC w a (zHX es)
 cap:es.length<=cap
 none_:a=none -> es.length=0
 max:es.length<=fC
theorem zEh.below {w w':uA} {a:Option mB} {cap:Nat} {es:List En} (h:zEh w a cap es) (hb:Below w.heap.size w w'):zEh w' a cap es:=⟨h.row.below hb,h.cap,h.none_,h.max⟩
abbrev zKu (b t:Int) (a:Option mB) (n cap:Nat):uB:=.agg #[b,t,.slice a n cap]
def Found (ns:List Int) (j:Nat) (best:Int) (found:Bool):Prop :=
 (found=false -> best=0/\∀ m ∈ ns.take j,¬ enough ns m)/\(found=true -> enough ns best/\∀ m ∈ ns.take j,enough ns m -> m<=best)
theorem Found.step {ns : List Int} {j : Nat} {best : Int} {found : Bool} (hf : Found ns j best found) (hj : j < ns.length) :
  (enough ns (ns[j]'hj)/\(found=false\/best<(ns[j]'hj)) -> Found ns (j+1) (ns[j]'hj) true)/\(¬ (enough ns (ns[j]'hj)/\(found=false\/best<(ns[j]'hj))) -> Found ns (j+1) best found):=by
 obtain ⟨h1,h2⟩:=hf
 have hm:∀ m,m ∈ ns.take (j+1) ↔ m ∈ ns.take j\/m=ns[j]'hj:=fun m=>by
  rw [List.take_succ_eq_append_getElem hj,List.mem_append,xB]
 refine ⟨fun ⟨he,hb⟩=>⟨fun h=>by (cases h),fun _=>⟨he,fun m hmm hem => ?_⟩⟩,fun hn=>⟨fun h=>⟨(h1 h).1,fun m hmm => ?_⟩,fun h=>⟨(h2 h).1,fun m hmm hem => ?_⟩⟩⟩
 ·rcases (hm m).1 hmm with h | rfl
  ·cases found with
   | false=>exact ((h1 rfl).2 m h hem).elim
   | true =>
    have:=(h2 rfl).2 m h hem
    rcases hb with hb | hb
    ·cases hb
    ·omega
  ·exact Int.le_refl _
 ·rcases (hm m).1 hmm with h' | rfl
  ·exact (h1 h).2 m h'
  ·exact fun he=>hn ⟨he,.inl h⟩
 ·rcases (hm m).1 hmm with h' | rfl
  ·exact (h2 h).2 m h' hem
  ·rcases Int.lt_or_le best (ns[j]'hj) with h3 | h3
   ·exact (hn ⟨hem,.inr h3⟩).elim
   ·exact h3
theorem zBG (a:Option mB) (cap:Nat) (bs:List UInt8) (w:uA) (hb:bJ w a bs) (hl:bs.length<=1000000) :
  iA prog 32 #[.slice a bs.length cap] w fun e w'=>e=.returned (.int .u32 (U (sum bs)))/\Below w.heap.size w w':=by
 have hm:∀ w,bJ w a bs -> iA prog 77 #[.int .u32 0,.slice a bs.length cap] w fun e w'=>e=.returned (.int .u32 (U (sum bs)))/\Below w.heap.size w w':=fun w hb=>zOK 0#32 a cap bs w hb hl
 have HM:=hid hm;clear hm
 go_enter func32,ntmps32
 go_wp2_with (go_at_call 77;refine (HM.out _ hb).mono ?_;rintro e w' ⟨rfl,hbw⟩)
 go_ret
 exact ⟨rfl,hbw⟩
theorem tV (a:Option mB) (cap:Nat) (bs:List UInt8) (w:uA) (hb:bJ w a bs) (hz:a=none -> bs.length=0) (hl:bs.length<=1000000) :
  iA prog 76 #[.slice a bs.length cap] w (mD 5 1 bs.length (bs.map pI) w):=by
 rcases a with _ | ad
 ·obtain rfl:=List.eq_nil_of_length_eq_zero (hz rfl)
  have hnil:∀ w,(binOp .eql 33 (.slice none 0 cap) (.slice none 0 0)).run prog w=.ok (.bool true) w:=fun w=>mE (P:=prog) w 33 5 none 0 cap 0 0 underlying33
  clear hz hb hl
  go_enter func76,ntmps76
  go_wp2
  go_ret
  exact ⟨none,0,rfl,World.ownsRow_nil _ _ _ _,cC _ _⟩
 ·clear hz
  have hnil:∀ w,(binOp .eql 33 (.slice (yA ad) bs.length cap) (.slice none 0 0)).run prog w=.ok (.bool false) w:=fun w=>mE (P:=prog) w 33 5 (yA ad) bs.length cap 0 0 underlying33
  go_enter func76,ntmps76
  go_wp2_with (at_builtin;refine yC rfl (.tmp 5) (.tmp 6) rfl zBa w.heap.size _ 0 [] (by rfl) (iL w #[] 0 (mA _) (by unfold fC;omega) (by rfl)) _ _ _ (bs.map pI) (by rfl) (by simp) (dC.alloc hb _) (zDp _) (by unfold fC;omega) (by omega) (by simp) (by simp) ?_;intro a' c' w1 hown hg hat)
  simp only [Nat.zero_add,List.nil_append] at hown ⊢
  have hbw:Below w.heap.size w w1:=Below.appended ((cC _ _).alloc (mA _) _) (iL (e:=5) (size:=1) w #[] 0 (mA _) (by unfold fC;omega) (by rfl)) hg (by simp) (mA _)
  go_wp2
  go_ret
  exact ⟨a',c',rfl,hown,hbw⟩
section
variable {F:Fence} {n:Nat} {P:Program} {ops:Array zI} {Q:Exit -> lJ -> uA -> Prop} {md:oJ} {S:uA -> Prop}
def iV (ops:Array zI):Bool:=ops.toList.all fun o=>match o.op with | .defer _=>false | _=>true
theorem zDP {j:Nat} {o:zI} (h:iV ops=true) (hj:ops[j]?=yA o):∀ c,o.op≠.defer c:=by
 intro c e
 have:=List.all_eq_true.1 h o (by rw [<- Array.getElem?_toList] at hj;exact List.mem_of_getElem? hj)
 simp [e] at this
def zAQ (F:Fence) (n:Nat) (P:Program) (md:oJ) (ops:Array zI) (Q:Exit -> lJ -> uA -> Prop) (S:uA -> Prop) (m:Nat):Nat -> Array Bool -> lJ -> uA -> Prop
 | 0,ls,a,w=>sC md ops ls=[]/\Q .normal a w
 | k+1,ls,a,w=>(sC md ops ls=[] -> Q .normal a w)/\∀ i ∈ sC md ops ls,zCN F n P ops Q i (fun a' w'=>(i<m -> S w')/\zAQ F n P md ops Q S m k (ls.setIfInBounds i true) a' w') a w
theorem zKZ {m:Nat}:∀ (k:Nat) (ls:Array Bool) (a:lJ) (w:uA),zAQ F n P md ops Q S m k ls a w -> wpAnyIn F n P md ops Q k ls a w
 | 0,_,_,_,h=>h
 | k+1,_,_,_,h=>⟨h.1,fun i hi=>wpOpIn_mono (fun a' w' q=>zKZ k _ a' w' q.2) (h.2 i hi)⟩
def zGz (md:oJ) (ops:Array zI) (m:Nat):Bool:=decide (m=ops.size) || (decide (m<ops.size) && (Region.sinkB md ops m && Region.chainB md ops m))
theorem zPG {m:Nat} {ls:Array Bool} (h:zGz md ops m=true) (inv:lZ md ops m ls) {i:Nat} (hi:i<m) (hu:ls.getD i true=false) {t:Nat} (ht:t ∈ sC md ops ls):t<m:=by
 rcases kI t m with q | q
 ·exact q
 ·simp only [zGz,Bool.or_eq_true,kC,decide_eq_true_eq] at h
  rcases h with h | h
  ·obtain ⟨_,o,ho,_⟩:=pP.1 ht
   have:=(yL.1 ho).1
   omega
  ·exact absurd ht (tail_waits h.2.1 h.2.2 h.1 inv _ i rfl hi hu t q)
theorem zGp {i:Nat} {o:zI} {v:uB} {a:lJ} {w:uA} (hF:∀ f,F.fn f) (hd:iV ops=true) (hi:ops[i]?=yA o) (hy:xR P ops S o v a) {K:lJ -> uA -> Prop} (hS:S w) (h:K (a.put o.dst v) w):zCN F n P ops Q i K a w:=by
 have hs:=zDP hd hi
 unfold zCN
 simp only [hi]
 rcases hy with ⟨hw,hv⟩ | ⟨hw,rfl⟩
 ·simp only [hw,if_true,Oper.wpIn,zBV _ _ _ hs,hv w hS,Oper.uponIn]
  exact ⟨fun f _=>hF f,h⟩
 ·simp only [hw,Bool.false_eq_true,if_false]
  exact ⟨fun f _=>hF f,h⟩
theorem zQH {j : Nat} {oi oj : zI} {v : uB} (hF : ∀ f, F.fn f) (hd : iV ops = true) (hj : ops[j]? = yA oj) (hap : oi.apart ops oj = true) (hsi : ∀ cs b, oi.op ≠ .select cs b) (hsj : ∀ cs b, oj.op ≠ .select cs b)
  (hQ:∀ c a w,Q (.panic c) (a.put oi.dst v) w -> Q (.panic c) a w) {K:lJ -> uA -> Prop} {a:lJ} {w:uA} (hy:xR P ops S oi v a) (h:zCN F n P ops Q j K (a.put oi.dst v) w) :
  zCN F n P ops Q j (fun a' w'=>xR P ops S oi v a'/\K (a'.put oi.dst v) w') a w:=by
 obtain ⟨h1,h2,h3⟩:=Oper.apart_spec hap
 have hs:=zDP hd hj
 have keep:∀ a,xR P ops S oi v a -> ∀ u,xR P ops S oi v (a.put oj.dst u):=fun a hy u=>hy.of_same (execOp_put oi hsi a oj.dst u h3) (wanted_put oi a oj.dst u h3)
 unfold zCN at *
 simp only [hj] at *
 rw [wanted_put oj a oi.dst v h1] at h
 split
 ·rename_i hw
  simp only [hw,if_true] at h
  unfold Oper.wpIn at *
  refine ⟨fun f _=>hF f,?_⟩
  have h:=h.2
  rw [zBV _ _ _ hs,execOp_put oj hsj a oi.dst v h1] at h
  rw [zBV _ _ _ hs]
  generalize (execOp a.eval oj).run P w=r at *
  cases r with
  | ok x w' =>
   cases x <;> simp only [Oper.uponIn] at h ⊢
   case value u=>exact ⟨keep a hy u,by rw [<- xP a v u h2];exact h⟩
   case skip=>exact ⟨keep a hy _,by rw [<- xP a v vB h2];exact h⟩
   case defer d=>exact ⟨(show xR P ops S oi v { a with defers:=d :: a.defers } from hy.of_same rfl rfl).of_same (execOp_put oi hsi _ oj.dst vB h3) (wanted_put oi _ oj.dst vB h3),by rw [<- xP _ v vB h2,<- Act.put_defers];exact h⟩
   case enter f args =>
    refine ⟨h.1,CallsIn.mono h.2 fun e w'' he => ?_⟩
    cases e with
    | returned u=>exact ⟨keep a hy u,by rw [<- xP a v u h2];exact he⟩
    | panicked c=>exact hQ _ _ _ he
    | outgrown=>exact he
   case row row args=>exact ⟨h.1,RowsIn.mono h.2 fun u w'' he=>⟨keep a hy u,by rw [<- xP a v u h2];exact he⟩⟩
   case round l f tmps assign body =>
    refine ⟨h.1,RoundIn.mono h.2 fun e w'' he => ?_⟩
    cases e with
    | returned u=>exact ⟨keep a hy u,by rw [<- xP a v u h2];exact he⟩
    | panicked c=>exact hQ _ _ _ he
    | outgrown=>exact he
  | halt x w' =>
   cases x <;> simp only [Oper.uponIn] at h ⊢
   case panic u=>exact hQ _ _ _ h
 ·rename_i hw
  simp only [hw] at h
  exact ⟨fun f _=>hF f,keep a hy _,by rw [<- xP a v vB h2];exact h.2⟩
theorem zJp {m i : Nat} {oi : zI} {v : uB} (hF : ∀ f, F.fn f) (hd : iV ops = true) (ht : zGz md ops m = true) (him : i < m) (hi : ops[i]? = yA oi) (hs : tF ops = true) (hQ : ∀ c a w, Q (.panic c) (a.put oi.dst v) w -> Q (.panic c) a w) :
  ∀ (k : Nat) (ls : Array Bool) (a : lJ) (w : uA), lZ md ops m ls -> (∀ j oj, ops[j]? = yA oj -> j ≠ i -> ls.getD j true = false -> (∀ e ∈ oj.after, sL md e = true -> e.on ≠ i) -> oi.apart ops oj = true) ->
   i ∈ sC md ops ls -> xR P ops S oi v a -> S w -> zAQ F n P md ops Q S m k (ls.setIfInBounds i true) (a.put oi.dst v) w -> zAQ F n P md ops Q S m (k+1) ls a w:=by
 intro k
 induction k with
 | zero =>
  intro ls a w _ _ hr hy hS H
  refine ⟨fun h=>(by rw [h] at hr;cases hr),fun j hj => ?_⟩
  by_cases e:j=i
  ·subst e;exact zGp hF hd hi hy hS ⟨fun _=>hS,H⟩
  ·have:=eO hj e
   rw [H.1] at this
   cases this
 | succ k ih =>
  intro ls a w inv hfree hr hy hS H
  refine ⟨fun h=>(by rw [h] at hr;cases hr),fun j hj => ?_⟩
  by_cases e:j=i
  ·subst e;exact zGp hF hd hi hy hS ⟨fun _=>hS,H⟩
  ·have hiu:=(pP.1 hr).1
   have hiu':ls.getD i true=false:=by
    rcases kI i ls.size with q | q
    ·simp [q] at hiu ⊢;exact hiu
    ·have:=(yL.1 hi).1;rw [inv.size] at q;omega
   have hjm:=zPG ht inv him hiu' hj
   obtain ⟨hjun,oj,hoj,hall⟩:=pP.1 hj
   have hnot:∀ e ∈ oj.after,sL md e=true -> e.on≠i:=fun e he hb heq=>by
    have h1:=hall e he hb
    have h0:=(pP.1 hr).1
    rw [heq] at h1
    rcases kI i ls.size with q | q
    ·simp [q] at h0 h1;rw [h0] at h1;cases h1
    ·simp [cG q] at h1
   have h2:=zQH hF hd hoj (hfree j oj hoj e hjun hnot) (fun cs b=>jK hs i oi cs b hi) (fun cs b=>jK hs j oj cs b hoj) hQ hy (H.2 j (eO hj e))
   refine wpOpIn_mono (fun a' w' q=>⟨q.2.1,ih (ls.setIfInBounds j true) a' w' (inv.set hj hjm) (fun x om hm hmi hun hno=>hfree x om hm hmi ?_ hno) (eO hr (Ne.symm e)) q.1 (q.2.1 hjm) ?_⟩) h2
   ·by_cases hjx:j=x
    ·subst hjx;exact hjun
    ·rw [getD_set_ne true hjx] at hun;exact hun
   ·rw [Array.setIfInBounds_comm _ _ e]
    exact q.2.2
theorem zFH {m i:Nat} {oi:zI} {v:uB} {k:Nat} {ls:Array Bool} {a:lJ} {w:uA} (hF:∀ f,F.fn f) (inv:lZ md ops m ls) (hi:ops[i]?=yA oi) (hb:(iV ops && tF ops && Region.free md ops ls i && (sC md ops ls).contains i && decide (i<m) && zGz md ops m)=true)
  (hQ:∀ c a w,Q (.panic c) (a.put oi.dst v) w -> Q (.panic c) a w) (hy:xR P ops S oi v a) (hS:S w) (h:lZ md ops m (ls.setIfInBounds i true) -> zAQ F n P md ops Q S m k (ls.setIfInBounds i true) (a.put oi.dst v) w):zAQ F n P md ops Q S m (k+1) ls a w:=by
 simp only [kC,decide_eq_true_eq] at hb
 have hr:i ∈ sC md ops ls:=by simpa using hb.1.1.2
 exact zJp hF hb.1.1.1.1.1 hb.2 hb.1.2 hi hb.1.1.1.1.2 hQ k ls a w inv (Region.free_spec hi hb.1.1.1.2) hr hy hS (h (inv.set hr hb.1.2))
theorem zNA {m i:Nat} {o:zI} {k:Nat} {ls:Array Bool} {a:lJ} {w:uA} (inv:lZ md ops m ls) (hr:sC md ops ls=[i]) (him:i<m) (hi:ops[i]?=yA o) (hw:eD o (yielded ops a.tmps)=true)
  (h:∀ K:lJ -> uA -> Prop,(∀ a' w',S w' -> (lZ md ops m (ls.setIfInBounds i true) -> zAQ F n P md ops Q S m k (ls.setIfInBounds i true) a' w') -> K a' w') -> o.wpIn F n P a w K Q):zAQ F n P md ops Q S m (k+1) ls a w:=by
 refine ⟨fun h0=>(by rw [hr] at h0;cases h0),fun j hj => ?_⟩
 have hj0:=hj
 rw [hr] at hj
 obtain rfl:=xB.1 hj
 unfold zCN
 simp only [hi,hw,if_true]
 exact h _ fun a' w' q r=>⟨fun _=>q,r (inv.set hj0 him)⟩
theorem zLA {m i:Nat} {o:zI} {k:Nat} {ls:Array Bool} {a:lJ} {w:uA} (hr:sC md ops ls=[i]) (him:m<=i) (hi:ops[i]?=yA o) (hw:eD o (yielded ops a.tmps)=true)
  (h:∀ K:lJ -> uA -> Prop,(∀ a' w',zAQ F n P md ops Q S m k (ls.setIfInBounds i true) a' w' -> K a' w') -> o.wpIn F n P a w K Q):zAQ F n P md ops Q S m (k+1) ls a w:=by
 refine ⟨fun h0=>(by rw [hr] at h0;cases h0),fun j hj => ?_⟩
 rw [hr] at hj
 obtain rfl:=xB.1 hj
 unfold zCN
 simp only [hi,hw,if_true]
 exact h _ fun a' w' q=>⟨fun x=>by omega,q⟩
theorem zFG {m:Nat} {ls:Array Bool} {a:lJ} {w:uA} (hr:sC md ops ls=[]) (h:Q .normal a w):∀ k,zAQ F n P md ops Q S m k ls a w
 | 0=>⟨hr,h⟩
 | _+1=>⟨fun _=>h,by rw [hr];simp⟩
theorem zPh {id:Nat} {a:lJ} {w:uA} (m:Nat) (hm:P.follows .mixedOrders=true) (h:lZ .any ops m (pL ops.size false) -> zAQ F n P .any ops Q S m ops.size (pL ops.size false) a w.drew):(Code.region id ops true).wpIn F n P Q a w :=
 wpIn_region_any hm (zKZ _ _ _ _ (h ⟨by simp,fun j oj _ hl=>(by rw [getD_replicate_false] at hl;cases hl),fun t _ ht=>by simp [ht]⟩))
end
theorem eB {W:uA} {F:Nat} {o:bQ} (h:W.heap[F]?=yA o):F<W.heap.size:=by
 rcases kI F W.heap.size with h' | h'
 ·exact h'
 ·simp [cG h'] at h
theorem kA {W w1:uA} {F:Nat} {o:bQ} (hb:Below W.heap.size W w1) (h:W.heap[F]?=yA o):w1.heap[F]?=yA o:=by rw [hb.block F (eB h)];exact h
theorem rB (w:uA) (o:bQ):(w.alloc o).heap[w.heap.size]?=yA o:=heap_alloc_new w o
theorem zF {w:uA} {F:Nat} {o:bQ} (h:w.heap[F]?=yA o) (o':bQ):(w.alloc o').heap[F]?=yA o:=by rw [Below.heap_alloc w o' F (eB h)];exact h
theorem bG (w:uA) (o1 o2:bQ):((w.alloc o1).alloc o2).heap[w.heap.size]?=yA o1:=zF (rB w o1) o2
theorem sF (w:uA) (o1 o2:bQ):((w.alloc o1).alloc o2).heap[w.heap.size+1]?=yA o2:=by
 have:=rB (w.alloc o1) o2
 simpa using this
theorem jA {w:uA} {F:Nat} {cs:Array uB} {t:tC} (h:w.heap[F]?=yA (.cells cs t)) (i:Nat):w.cell? ⟨F,i,none⟩=cs[i]?:=cell_of_row _ _ _ _ _ (0,0) h
theorem qB {w:uA} {F:Nat} {cs:Array uB} {t:tC} (h:w.heap[F]?=yA (.cells cs t)) (i:Nat):w.frozen? ⟨F,i,none⟩=false:=frozen_of_row _ _ _ _ _ h
theorem zD {w:uA} {F i:Nat} {cs:Array uB} {t:tC} (h:w.heap[F]?=yA (.cells cs t)) (v:uB):(w.setCell ⟨F,i,none⟩ v).heap[F]?=yA (.cells (cs.setIfInBounds i v) t):=by
 simp [World.setCell,Array.getElem?_modify,h]
theorem pC {w:uA} {F G i:Nat} {o:bQ} (h:w.heap[F]?=yA o) (hne:F≠G) (v:uB):(w.setCell ⟨G,i,none⟩ v).heap[F]?=yA o:=by
 rw [Below.heap_setCell _ _ _ _ hne];exact h
theorem vH {w:uA} {F:Nat} {x y z:uB} {t:tC} (h:w.heap[F]?=yA (.cells #[x,y,z] t)) :
  w.cell? ⟨F,0,none⟩=yA x/\w.cell? ⟨F,1,none⟩=yA y/\w.cell? ⟨F,2,none⟩=yA z/\w.frozen? ⟨F,0,none⟩=false/\w.frozen? ⟨F,1,none⟩=false/\w.frozen? ⟨F,2,none⟩=false/\F<w.heap.size :=
 ⟨jA h 0,jA h 1,jA h 2,qB h 0,qB h 1,qB h 2,eB h⟩
theorem nJ {w:uA} {F:Nat} {x y:uB} {t:tC} (h:w.heap[F]?=yA (.cells #[x,y] t)) :
  w.cell? ⟨F,0,none⟩=yA x/\w.cell? ⟨F,1,none⟩=yA y/\w.frozen? ⟨F,0,none⟩=false/\w.frozen? ⟨F,1,none⟩=false/\F<w.heap.size :=
 ⟨jA h 0,jA h 1,qB h 0,qB h 1,eB h⟩
abbrev zDB (w:uA) (F:Nat) (x y z:uB):uA:=((w.setCell ⟨F,0,none⟩ x).setCell ⟨F,1,none⟩ y).setCell ⟨F,2,none⟩ z
theorem xI {w:uA} {F:Nat} {x y z:uB} {t:tC} (h:w.heap[F]?=yA (.cells #[x,y,z] t)) (x' y' z':uB):(zDB w F x' y' z').heap[F]?=yA (.cells #[x',y',z'] t):=zD (zD (zD h x') y') z'
theorem rH {B:Nat} {w0 w:uA} {F:Nat} (h:Below B w0 w) (hF:B<=F) (x y z:uB):Below B w0 (zDB w F x y z):=((h.setCell (p:=⟨F,0,none⟩) hF x).setCell (p:=⟨F,1,none⟩) hF y).setCell (p:=⟨F,2,none⟩) hF z
theorem kT {w:uA} {F G:Nat} {o:bQ} (h:w.heap[F]?=yA o) (hne:F≠G) (x y z:uB):(zDB w G x y z).heap[F]?=yA o:=pC (pC (pC h hne x) hne y) hne z
abbrev zRM (w:uA) (F:Nat) (x y:uB):uA:=(w.setCell ⟨F,0,none⟩ x).setCell ⟨F,1,none⟩ y
theorem zPr {w:uA} {F:Nat} {x y:uB} {t:tC} (h:w.heap[F]?=yA (.cells #[x,y] t)) (x' y':uB):(zRM w F x' y').heap[F]?=yA (.cells #[x',y'] t):=zD (zD h x') y'
theorem zKO {B:Nat} {w0 w:uA} {F:Nat} (h:Below B w0 w) (hF:B<=F) (x y:uB):Below B w0 (zRM w F x y):=(h.setCell (p:=⟨F,0,none⟩) hF x).setCell (p:=⟨F,1,none⟩) hF y
theorem zIQ {w:uA} {F G:Nat} {o:bQ} (h:w.heap[F]?=yA o) (hne:F≠G) (x y:uB):(zRM w G x y).heap[F]?=yA o:=pC (pC h hne x) hne y
theorem xC (w:uA):Below w.heap.size w w:=cC _ _
theorem wA (w:uA) (o:bQ):Below w.heap.size w (w.alloc o):=(cC _ _).alloc (mA _) o
theorem yI (w:uA) (o1 o2:bQ):Below w.heap.size w ((w.alloc o1).alloc o2):=(wA w o1).alloc (by simp) o2
theorem zGG {w w1:uA} {o1 o2:bQ} (hb:Below ((w.alloc o1).alloc o2).heap.size ((w.alloc o1).alloc o2) w1):Below w.heap.size w w1:=(yI w o1 o2).trans (hb.mono (by simp;omega))
theorem Below.many {B:Nat} {a w:uA} (h:Below B a w) (n:Nat):Below B a (w.drewN n):=⟨h.os,h.tape,h.output,h.size,h.block⟩
theorem zGH (w:uA) (o1 o2 o3:bQ):((((w.alloc o1).alloc o2).alloc o3).heap[w.heap.size]?=yA o1/\(((w.alloc o1).alloc o2).alloc o3).heap[w.heap.size+1]?=yA o2 /\
  (((w.alloc o1).alloc o2).alloc o3).heap[w.heap.size+2]?=yA o3)/\(((w.alloc o1).alloc o2).alloc o3).heap.size=w.heap.size+3/\Below w.heap.size w (((w.alloc o1).alloc o2).alloc o3):=by
 have h3:=rB ((w.alloc o1).alloc o2) o3
 refine ⟨⟨zF (bG w o1 o2) o3,zF (sF w o1 o2) o3,?_⟩,by simp,(yI w o1 o2).alloc (by simp;omega) o3⟩
 simpa using h3
theorem sN {w:uA} {base:Nat} {e:tC} {size n:Nat} {v:uB} {xs:List uB} (h:w.ownsRow base e size v n xs) (k:Nat):(w.drewN k).ownsRow base e size v n xs:=h
theorem bR {w:uA} {base F:Nat} {e:tC} {size n:Nat} {v:uB} {xs:List uB} (h:w.ownsRow base e size v n xs) (hF:F<base) (x y z:uB):(zDB w F x y z).ownsRow base e size v n xs :=
 xS (xS (xS h (a:=⟨F,0,none⟩) hF x) (a:=⟨F,1,none⟩) hF y) (a:=⟨F,2,none⟩) hF z
theorem zDo {w w1:uA} {row:Option Nat} {F:Nat} {o:bQ} (hg:w.grownBy w1 row) (h:w.heap[F]?=yA o) (hne:row≠yA F):w1.heap[F]?=yA o:=by
 rw [hg.block F (eB h) (fun e=>hne e.symm)];exact h
theorem iB {w:uA} {F:Nat} {o:bQ} (h:w.heap[F]?=yA o):w.drew.heap[F]?=yA o:=h
theorem sI {w:uA} {base:Nat} {e:tC} {size n:Nat} {v:uB} {xs:List uB} (h:w.ownsRow base e size v n xs):w.drew.ownsRow base e size v n xs:=h
theorem oH {x:Int} (h0:-9223372036854775808<=x) (h1:x<=9223372036854775807):IntKind.i64.wrap x=x:=by rw [IntKind.wrap_i64];omega
theorem zBI {x:Int} (h0:-9223372036854775808<=x) (h1:x<=9223372036854775807):wrap64 x=x:=by unfold wrap64;omega
theorem zQz (n:BitVec 32) (k:Nat):dD .u8 (U n / 2 ^ (8 * k) % 256)=pI (zIj n k):=by
 unfold pI zIj U
 rw [UInt8.toNat_ofNat_of_lt' (Nat.mod_lt _ (by decide))]
 rw [Int.natCast_emod,Int.natCast_ediv,Int.natCast_pow];rfl
theorem zQA (bs:List UInt8) (n:BitVec 32) (k:Nat) (h:k<4):(bs ++ (le n).take k).map pI ++ [dD .u8 (U n / 2 ^ (8 * k) % 256)]=(bs ++ (le n).take (k+1)).map pI:=by
 rw [zQz,zHd n k h,<- List.append_assoc,List.map_append (l₂:=[zIj n k])];rfl
theorem zMO (a:Option mB) (cap:Nat) (bs:List UInt8) (w:uA) (hb:bJ w a bs) (hz:a=none -> bs.length=0) (hl:bs.length<=900000) :
  iA prog 308 #[.slice a bs.length cap] w (mD 5 1 (bs.length+4) ((sealed bs).map pI) w):=by
 go_enter func308,ntmps308
 go_wp2_with (first
  | (go_at_call 32;refine (zBG a cap bs _ hb (by omega)).mono ?_;rintro e w1 ⟨rfl,hb1⟩)
  | (go_at_call 76;refine (tV a cap bs _ (hb.below hb1) hz (by omega)).mono ?_;rintro e w2 ⟨a2,cap2,rfl,hown,hb2⟩))
 have hbw:=hb1.trans (hb2.mono hb1.size)
 generalize hn:sum bs=n
 have HN:=hid hn;clear hn
 go_loopw [4,10] (fun v i wr=>∃ (k:Nat) (a':Option mB) (cap':Nat),k<=4/\i=.int .i64 k/\v=.slice a' (bs.length+k) cap'/\wr.ownsRow w.heap.size 5 1 (.slice a' (bs.length+k) cap') (bs.length+k) ((bs ++ (le n).take k).map pI)/\Below w.heap.size w wr) (fun _ i _=>4 - (intOf i).toNat)
 case atStart=>exact ⟨0,a2,cap2,by omega,rfl,rfl,by simpa using oC hown hb1.size,hbw⟩
 case round =>
  obtain ⟨k,a',cap',hk,rfl,rfl,hown,hbw⟩:=hrel
  by_cases hlt:k<4
  ·have H0:=U0 n
   have HS:=hid (zQA bs n k hlt)
   go_wp2_with (at_builtin;refine yC rfl (.tmp 13) (.tmp 19) rfl zBa w.heap.size (.slice a' (bs.length+k) cap') (bs.length+k) _ (by rfl) (hown.alloc _) (yA ⟨wr.heap.size,0,none⟩) 1 1 [.int .u8 (U n / 2 ^ (8 * k) % 256)] (by rfl) (by rfl) (dC.new wr #[.int .u8 (U n / 2 ^ (8 * k) % 256)] 5) (by simp [Value.oneCell']) (by unfold fC;omega) (by omega) (by simp;have:=hbw.size;omega) (by simp) ?_;intro a3 c3 w3 hown3 hg3 hat3)
   have hbw3:Below w.heap.size w w3:=Below.appended (hbw.alloc (by have:=hbw.size;omega) _) (hown.alloc _) hg3 (by simp;have:=hbw.size;omega) (mA _)
   rw [HS.out] at hown3
   clear hown hg3 hat3
   go_wp2
   go_roundw
   case rel=>exact ⟨k+1,a3,c3,by omega,by go_num,rfl,hown3,hbw3⟩
   case measure=>simp [intOf];omega
  ·obtain rfl:k=4:=by omega
   go_wp2
   go_ret
   exact ⟨a',cap',rfl,by rw [sealed,HN.out];exact hown,hbw⟩
def opens (bs:List UInt8):Bool:=decide (4<=bs.length) && decide (sealed (bs.take (bs.length - 4))=bs)
end Go.Proofs.YtogbpifcmhafkaaGreat
