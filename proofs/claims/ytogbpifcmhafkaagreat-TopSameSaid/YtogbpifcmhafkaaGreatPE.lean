/-
 Part PE of the proof.
-/
import Derived.Test.YtogbpifcmhafkaaGreatPD
import Derived.Maps.OwnSet
import Derived.Maps.Keyed
import Derived.DeepKeys4
import Derived.MapFrom
open Go renaming Addr->mB,TypeId->tC,Value->uB,World->uA,undef->vB,wpList->yP
open Go.Builtin renaming clear_->jE
open Go.ChangeMaps renaming heap_setBlock_same->lS,setBlock->lP
open Go.Instr renaming lookup->eE
open Go.Lit renaming int->cE
open Go.Maps renaming atKey_put_other->zAJ,atKey_put_same->zBP
open Go.Proofs.Tryz renaming underlying135->kY,underlying139->zCd
open Go.Result renaming andThen_ok->wL
open Go.Sem renaming run_bind->wU,run_pure->lU
open Go.World renaming ownsMap_made->zCr
open Go.World.ownsMap renaming lookup->zAP,store->rM
open List renaming mem_cons->pE,not_mem_nil->zG
open Nat renaming succ_mul->cH
open Option renaming some->yA
namespace Go.Proofs.YtogbpifcmhafkaaGreat
open Go.RowKit Tryz
open Go.Lib(hid)
set_option linter.unusedVariables false
set_option linter.unusedSimpArgs false
set_option maxRecDepth 100000
set_option maxHeartbeats 16000000
def zEc (r:Int × Int × List En × Int) (w:uA) (en:Ending) (w':uA):Prop :=
 ∃ a cap,en=.returned (.tuple #[zKu r.1 r.2.1 a r.2.2.1.length cap,r.2.2.2])/\w'.ownsRow w.heap.size 227 7 (.slice a r.2.2.1.length cap) r.2.2.1.length (zHX r.2.2.1)/\Below w.heap.size w w'
theorem zEc.none (err:Int) {w w':uA} {en:Ending} (h:en=.returned (.tuple #[zKu 0 0 none 0 0,err])) (hb:Below w.heap.size w w'):zEc (0,0,[],err) w en w':=⟨Option.none,0,h,World.ownsRow_nil _ _ _ _,hb⟩
def zNn (b t : Int) (a : Option mB) (cap : Nat) (es : List En) (k0 : Nat) (T : Int) (more : List En) (w : uA) (a' : Act) (w' : uA) : Prop :=
 ∃ (j r : Nat) (Am : Option mB) (cj : Nat) (a2 : Option mB) (c2 : Nat) (u : Nat -> uB), j + r = more.length /\ k0 + j <= es.length /\ (∀ i, (hi : i < j) -> (es.getD (k0 + i) default).1 = (more.getD i default).1) /\ dC w' Am (zHX (more.drop j)) /\ (Am = none -> r = 0) /\ r <= cj /\
  w'.heap[w.heap.size]?=yA (.cells #[b,t,.slice a2 es.length c2] 148)/\w'.heap[w.heap.size+1]?=yA (.cells #[.int .i64 0,.int .i64 0,.slice none 0 0] 148)/\w'.ownsRow (w.heap.size+2) 227 7 (.slice a2 es.length c2) es.length (zHX es)/\Below w.heap.size w w' /\
  a'={ tmps:=#[zKu b t a es.length cap,.int .i64 (b+(k0:Int)),.int .i64 T,.slice Am r cj,.pointer (yA ⟨w.heap.size,0,none⟩),u 5,u 6,u 7,.pointer (yA ⟨w.heap.size+1,0,none⟩),.int .i64 0,u 10,u 11,u 12,.int .i64 ((k0+j:Nat):Int),u 14,u 15,u 16,u 17,u 18,u 19,u 20,u 21,u 22,u 23,u 24,u 25,u 26,u 27,u 28,u 29,u 30,u 31,u 32,u 33,u 34,u 35,u 36,u 37,u 38,u 39,u 40,u 41,u 42,u 43,u 44,u 45,u 46,u 47,u 48,u 49,u 50,u 51,u 52,u 53,u 54,u 55,u 56,u 57,u 58,u 59,u 60,u 61,u 62,u 63,u 64,u 65,u 66,u 67,u 68,u 69,u 70,u 71,u 72,u 73,u 74,u 75,u 76,u 77,u 78,u 79,u 80,u 81,u 82,u 83,u 84,u 85,u 86,u 87,u 88,u 89,u 90,u 91],defers:=[] }
theorem zNn.mk {b t:Int} {a:Option mB} {cap:Nat} {es:List En} {k0:Nat} {T:Int} {more:List En} {w:uA} {a':Act} {w':uA} {j r:Nat} {Am:Option mB} {cj:Nat} {a2:Option mB} {c2:Nat}
  (h1:j+r=more.length) (h2:k0+j<=es.length) (h3:∀ i,(hi:i<j) -> (es.getD (k0+i) default).1=(more.getD i default).1) (h4:dC w' Am (zHX (more.drop j))) (h5:Am=none -> r=0) (h6:r<=cj)
  (h7:w'.heap[w.heap.size]?=yA (.cells #[b,t,.slice a2 es.length c2] 148)) (h8:w'.heap[w.heap.size+1]?=yA (.cells #[.int .i64 0,.int .i64 0,.slice none 0 0] 148)) (h9:w'.ownsRow (w.heap.size+2) 227 7 (.slice a2 es.length c2) es.length (zHX es)) (h10:Below w.heap.size w w')
  (h11:a'={ tmps:=#[zKu b t a es.length cap,.int .i64 (b+(k0:Int)),.int .i64 T,.slice Am r cj,.pointer (yA ⟨w.heap.size,0,none⟩),a'.tmps.getD 5 vB,a'.tmps.getD 6 vB,a'.tmps.getD 7 vB,.pointer (yA ⟨w.heap.size+1,0,none⟩),.int .i64 0,a'.tmps.getD 10 vB,a'.tmps.getD 11 vB,a'.tmps.getD 12 vB,.int .i64 ((k0+j:Nat):Int),a'.tmps.getD 14 vB,a'.tmps.getD 15 vB,a'.tmps.getD 16 vB,a'.tmps.getD 17 vB,a'.tmps.getD 18 vB,a'.tmps.getD 19 vB,a'.tmps.getD 20 vB,a'.tmps.getD 21 vB,a'.tmps.getD 22 vB,a'.tmps.getD 23 vB,a'.tmps.getD 24 vB,a'.tmps.getD 25 vB,a'.tmps.getD 26 vB,a'.tmps.getD 27 vB,a'.tmps.getD 28 vB,a'.tmps.getD 29 vB,a'.tmps.getD 30 vB,a'.tmps.getD 31 vB,a'.tmps.getD 32 vB,a'.tmps.getD 33 vB,a'.tmps.getD 34 vB,a'.tmps.getD 35 vB,a'.tmps.getD 36 vB,a'.tmps.getD 37 vB,a'.tmps.getD 38 vB,a'.tmps.getD 39 vB,a'.tmps.getD 40 vB,a'.tmps.getD 41 vB,a'.tmps.getD 42 vB,a'.tmps.getD 43 vB,a'.tmps.getD 44 vB,a'.tmps.getD 45 vB,a'.tmps.getD 46 vB,a'.tmps.getD 47 vB,a'.tmps.getD 48 vB,a'.tmps.getD 49 vB,a'.tmps.getD 50 vB,a'.tmps.getD 51 vB,a'.tmps.getD 52 vB,a'.tmps.getD 53 vB,a'.tmps.getD 54 vB,a'.tmps.getD 55 vB,a'.tmps.getD 56 vB,a'.tmps.getD 57 vB,a'.tmps.getD 58 vB,a'.tmps.getD 59 vB,a'.tmps.getD 60 vB,a'.tmps.getD 61 vB,a'.tmps.getD 62 vB,a'.tmps.getD 63 vB,a'.tmps.getD 64 vB,a'.tmps.getD 65 vB,a'.tmps.getD 66 vB,a'.tmps.getD 67 vB,a'.tmps.getD 68 vB,a'.tmps.getD 69 vB,a'.tmps.getD 70 vB,a'.tmps.getD 71 vB,a'.tmps.getD 72 vB,a'.tmps.getD 73 vB,a'.tmps.getD 74 vB,a'.tmps.getD 75 vB,a'.tmps.getD 76 vB,a'.tmps.getD 77 vB,a'.tmps.getD 78 vB,a'.tmps.getD 79 vB,a'.tmps.getD 80 vB,a'.tmps.getD 81 vB,a'.tmps.getD 82 vB,a'.tmps.getD 83 vB,a'.tmps.getD 84 vB,a'.tmps.getD 85 vB,a'.tmps.getD 86 vB,a'.tmps.getD 87 vB,a'.tmps.getD 88 vB,a'.tmps.getD 89 vB,a'.tmps.getD 90 vB,a'.tmps.getD 91 vB],defers:=[] }):zNn b t a cap es k0 T more w a' w' :=
 ⟨j,r,Am,cj,a2,c2,fun k=>a'.tmps.getD k vB,h1,h2,h3,h4,h5,h6,h7,h8,h9,h10,h11⟩
theorem zEc.ok {b t:Int} {L:List En} {q c3 base:Nat} {a3:Option mB} {w W:uA} (hq:L.length=q) (hown:W.ownsRow base 227 7 (.slice a3 q c3) q (zHX L)) (hbase:w.heap.size<=base) (hb:Below w.heap.size w W):zEc (b,t,L,0) w (.returned (.tuple #[zKu b t a3 q c3,.int .i64 0])) W:=by
 subst hq
 exact ⟨a3,c3,rfl,oC hown hbase,hb⟩
theorem zQM {w:uA} {F:Nat} {A:Option mB} {xs:List uB} {v:uB} {k:Nat} (h:dC w A xs) (hA:∀ b o,A=yA ⟨b,o,none⟩ -> b≠F):dC (w.setCell ⟨F,k,none⟩ v) A xs:=by
 rcases h with h | ⟨b,off,ha,hlt,hc⟩
 ·exact .inl h
 ·refine .inr ⟨b,off,ha,by simpa [World.setCell] using hlt,fun i u hi => ?_⟩
  rw [World.cell?_setCell_far _ _ _ _ (fun e=>hA b off ha e.symm)]
  exact hc i u hi
section
variable {α:Type} {enc:α -> List uB} {k:Nat}
def flat (enc:α -> List uB) (xs:List α):List uB:=xs.flatMap enc
theorem vK (x:α) (xs:List α):flat enc (x :: xs)=enc x ++ flat enc xs:=by simp [flat]
theorem uD (xs ys:List α):flat enc (xs ++ ys)=flat enc xs ++ flat enc ys:=by simp [flat]
theorem jD (hk:∀ x,(enc x).length=k):∀ xs:List α,(flat enc xs).length=xs.length * k
 | []=>by simp [flat]
 | x :: xs=>by rw [vK,List.length_append,hk,jD hk xs,List.length_cons,cH];omega
theorem tK (hk:∀ x,(enc x).length=k):∀ {xs:List α} {i j:Nat} (hi:i<xs.length),j<k -> (flat enc xs)[i * k+j]?=(enc (xs[i]'hi))[j]?
 | x :: xs, 0, j, hi, hj => by
  rw [vK,Nat.zero_mul,Nat.zero_add,List.getElem?_append_left (by rw [hk];exact hj)]
  rfl
 | x :: xs, i + 1, j, hi, hj => by
  rw [vK,List.getElem?_append_right (by rw [hk,cH];omega),hk,show (i+1) * k+j - k=i * k+j by rw [cH];omega]
  exact tK hk (by simpa using hi) hj
theorem jF (h:∀ x,∀ u ∈ enc x,u.oneCell'=true) (xs:List α):∀ u ∈ flat enc xs,u.oneCell'=true:=fun u hu=>by
 obtain ⟨x,_,hx⟩:=List.mem_flatMap.1 hu
 exact h x u hx
theorem mL (hk:∀ x,(enc x).length=k):∀ (i:Nat) (xs:List α),(flat enc xs).take (i * k)=flat enc (xs.take i)
 | 0,xs=>by simp [flat]
 | i+1,[]=>by simp [flat]
 | i + 1, x :: xs => by
  rw [vK,cH,Nat.add_comm,List.take_append,hk,List.take_of_length_le (by rw [hk];omega),show k+i * k - k=i * k by omega,mL hk i xs]
  simp [flat]
theorem wM (hk:∀ x,(enc x).length=k):∀ (i:Nat) (xs:List α),(flat enc xs).drop (i * k)=flat enc (xs.drop i)
 | 0,xs=>by simp [flat]
 | i+1,[]=>by simp [flat]
 | i + 1, x :: xs => by
  rw [vK,cH,Nat.add_comm,List.drop_append,hk,List.drop_eq_nil_of_le (by rw [hk];omega),show k+i * k - k=i * k by omega,wM hk i xs]
  simp
structure yB (enc:α -> List uB) (w:uA) (A:Option mB) (c:Nat) (xs:List α):Prop where
 row:dC w A (flat enc xs)
 cap:xs.length<=c
 none_:A=none -> xs.length=0
 max:xs.length<=1000000
namespace yB
variable {w w':uA} {A:Option mB} {c:Nat} {xs:List α}
theorem nil:yB enc w none 0 ([]:List α):=⟨dC.nil,Nat.le_refl _,fun _=>rfl,Nat.zero_le _⟩
theorem below (h:yB enc w A c xs) (hb:Below w.heap.size w w'):yB enc w' A c xs:=⟨h.row.below hb,h.cap,h.none_,h.max⟩
theorem drew (h:yB enc w A c xs):yB enc w.drew A c xs:=⟨h.row.drew,h.cap,h.none_,h.max⟩
theorem alloc (h:yB enc w A c xs) (o:Obj):yB enc (w.alloc o) A c xs:=⟨h.row.alloc o,h.cap,h.none_,h.max⟩
theorem of_own {base:Nat} {e:tC} (h:w.ownsRow base e k (.slice A xs.length c) xs.length (flat enc xs)) (hm:xs.length<=1000000):yB enc w A c xs:=⟨dC.of_own h,fP h,xT h,hm⟩
theorem at_ (h:yB enc w A c xs) (hk:∀ x,(enc x).length=k) {i:Nat} (hi:i<xs.length) (h0:0<k):∃ b off,A=yA ⟨b,off,none⟩/\b<w.heap.size/\∀ j u,(enc (xs[i]'hi))[j]?=yA u -> w.cell? ⟨b,off+i * k+j,none⟩=yA u:=by
 rcases h.row with hn | ⟨b,off,ha,hlt,hc⟩
 ·have:=jD hk xs
  rw [hn,List.length_nil] at this
  have:=Nat.mul_pos (show 0<xs.length by omega) h0
  omega
 ·refine ⟨b,off,ha,hlt,fun j u hj => ?_⟩
  have hjk:j<k:=by
   rcases Nat.lt_or_ge j k with q | q
   ·exact q
   ·rw [List.getElem?_eq_none (by rw [hk];exact q)] at hj;cases hj
  rw [Nat.add_assoc]
  exact hc _ u (by rw [tK hk hi hjk];exact hj)
end yB
end
section
open Go.Maps (Keyed)
abbrev HV:uB -> Option (DataW uB × List MemPlace):=fun v=>yA (.held v,[])
def zKv:List (Int × uB) -> DataW uB
 | []=>.map []
 | p :: l=>(zKv l).put (.int .i64 p.1) (.held p.2)
def yT:List (Int × uB) -> Int -> Option uB
 | [],_=>none
 | p :: l,k=>if p.1=k then yA p.2 else yT l k
theorem zEP:∀ l,Maps.IsMap (zKv l)
 | []=>Maps.isMap_empty
 | p :: l=>(zEP l).put _ _
theorem zBA {k:Int} (h:(cE .i64 k).wf=true):keyOf prog 3 (.int .i64 k)=yA (.int .i64 k):=Maps.keyOf_int_mk underlying3 h
theorem zDu:Keyed prog 3:=Maps.int_keyed underlying3
theorem zLp {k:Int} (hk:(cE .i64 k).wf=true) (z:uB):∀ l,(zKv l).atKey (.int .i64 k) (.held z)=.held ((yT l k).getD z)
 | []=>by simp [zKv,yT,DataW.atKey]
 | p :: l => by
  unfold zKv yT
  by_cases h:p.1=k
  ·rw [if_pos h,h,zBP (zEP l) (zDu.key (zBA hk))]
   rfl
  ·rw [if_neg h,zAJ (fun e=>h (by injection e with _ e2;exact e2.symm)),zLp hk z l]
def uH (w:uA) (M n:Nat) (l:List (Int × uB)):Prop:=w.ownsMap prog 3 HV M n (zKv l)
theorem uH.lt {w:uA} {M n:Nat} {l:List (Int × uB)} (h:uH w M n l):M<w.heap.size:=World.ownsMap.lt h
theorem uH.made (w:uA):uH (w.alloc (.map #[] 0)) w.heap.size 0 []:=zCr w _ _ _
theorem uH.chg {S:List Nat} {w w':uA} {M n:Nat} {l:List (Int × uB)} (h:uH w M n l) (hc:fD S w w') (hne:M ∉ S):uH w' M n l:=by
 have hlt:=h.lt
 obtain ⟨es,clock,hb,r⟩:=h
 exact ⟨es,clock,by rw [hc.block M hlt hne];exact hb,r⟩
theorem uH.look {w:uA} {M n:Nat} {l:List (Int × uB)} (h:uH w M n l) {t e:tC} (ht:(prog).underlying t=yA (.map 3 e)) {z:uB} (hz:(zeroValue e).run prog w=.ok z w) (k:Int) (hw:(cE .i64 k).wf=true) :
  (eE t (.map (yA M)) (.int .i64 k) false).run prog w=.ok ((yT l k).getD z) w:=by
 obtain ⟨v,ps,hrun,hv⟩:=zAP h zDu ht hz (zd:=.held z) (zp:=[]) rfl (zBA hw)
 rw [hrun]
 rw [zLp hw] at hv
 injection hv with hv
 injection hv with hv _
 injection hv with hv
 rw [hv]
theorem qP {w w':uA} {M:Nat} (h:w.mapTurned w' M):fD [M] w w':=by
 have:=h.grown
 exact (fD.refl [M] w).grown this fun x hx=>by cases hx;exact .inl (by simp)
theorem wD {w:uA} {ops:Array Oper} {rest:List Oper} {o:Oper} {a:Act} {Q:Exit -> Act -> uA -> Prop} (hgd:o.guard=none) (t e:tC) (x k v:Operand)
  (ho:o.op=.insert t x k v) (ht:(prog).underlying t=yA (.map 3 e)) {M n:Nat} {i:Int} {l:List (Int × uB)} {u:uB} (hx:a.eval x=.map (yA M)) (hk:a.eval k=.int .i64 i) (hv:a.eval v=u)
  (hm:uH w M n l) (hw:(cE .i64 i).wf=true) (hl:n<maxLen)
  (h:∀ w',uH w' M (n+1) ((i,u) :: l) -> fD [M] w w' -> yP prog ops Q rest (a.put o.dst vB) w'):yP prog ops Q (o :: rest) a w :=
 wpList_plain hgd fun K hK=>by
  obtain ⟨w',hrun,h2,h3⟩:=rM hm zDu ht hl (zBA hw) (val:=u) (d:=.held u) (ps:=[]) rfl
  unfold Oper.wp
  simp only [execOp,ho,hx,hk,hv,hrun,wU,lU,wL]
  exact hK _ _ (h w' h2 (qP h3))
theorem yW {w:uA} {ops:Array Oper} {rest:List Oper} {o:Oper} {a:Act} {Q:Exit -> Act -> uA -> Prop} (hgd:o.guard=none) (t e:tC) (x k v:Operand)
  (ho:o.op=.mapUpdate t x k v) (ht:(prog).underlying t=yA (.map 3 e)) {M n:Nat} {i:Int} {l:List (Int × uB)} {u:uB} (hx:a.eval x=.map (yA M)) (hk:a.eval k=.int .i64 i) (hv:a.eval v=u)
  (hm:uH w M n l) (hw:(cE .i64 i).wf=true) (hl:n<maxLen)
  (h:∀ w',uH w' M (n+1) ((i,u) :: l) -> fD [M] w w' -> yP prog ops Q rest (a.put o.dst vB) w'):yP prog ops Q (o :: rest) a w :=
 wpList_plain hgd fun K hK=>by
  obtain ⟨w',hrun,h2,h3⟩:=rM hm zDu ht hl (zBA hw) (val:=u) (d:=.held u) (ps:=[]) rfl
  unfold Oper.wp
  simp only [execOp,ho,hx,hk,hv,hrun,wU,lU,wL]
  exact hK _ _ (h w' h2 (qP h3))
theorem uH.alloc {w:uA} {M n:Nat} {l:List (Int × uB)} (h:uH w M n l) (o:Obj):uH (w.alloc o) M n l:=World.ownsMap.alloc h o
theorem uH.below {w w':uA} {M n:Nat} {l:List (Int × uB)} (h:uH w M n l) (hb:Below w.heap.size w w'):uH w' M n l:=h.chg (fD.of_below hb:fD [] w w') (by simp)
end
section
open Go.Maps (Keyed)
open Go.WideMaps (KeyLaw)
def plK (k:Int) (b:Bool):Lit:=.string (keyBytes [.int .i64 k,.bool b])
theorem zIC:Keyed prog 139:=Keyed.of_law (deep_law_laid (by kernel_rfl) (m:=3) (by omega) (of_decide_eq_true (by kernel_rfl)) (by kernel_rfl) (by rw [zCd]))
theorem zGr {k:Int} (h:(cE .i64 k).wf=true) (b:Bool):keyOf prog 139 (.agg #[k,.bool b])=yA (plK k b):=by
 have h1:(prog).keyType 139=true:=by kernel_rfl
 have h2:(prog).cellsOf 139=2:=by kernel_rfl
 have h3:(prog).cellsOf 3=1:=by kernel_rfl
 have h4:(prog).cellsOf 4=1:=by kernel_rfl
 obtain ⟨m,hm⟩:∃ m,(prog).types.size+1=m+1+1:=⟨(prog).types.size - 1,by kernel_rfl⟩
 unfold keyOf
 rw [hm,zCd]
 simp [h1,Value.formed,zCd,h2,Program.keyLits,Value.cells,h3,h4,underlying3,underlying4,h,plK]
theorem zGs {k k':Int} {b b':Bool} (h:(cE .i64 k).wf=true) (h':(cE .i64 k').wf=true) (e:plK k b=plK k' b'):k=k'/\b=b':=by
 have:=zIC.inj (zGr h b) (by rw [zGr h' b',e])
 simpa using this
def bI {α:Type} (f:Int -> Bool -> α) (k:Int) (b:Bool) (u:α):Int -> Bool -> α:=fun k' b'=>if k'=k/\b'=b then u else f k' b'
def xN (w:uA) (M n:Nat) (f:Int -> Bool -> uB):Prop:=∃ D:DataW uB,w.ownsMap prog 139 HV M n D/\∀ k b,(cE .i64 k).wf=true -> D.atKey (plK k b) (.held (.slice none 0 0))=.held (f k b)
theorem xN.made (w:uA):xN (w.alloc (.map #[] 0)) w.heap.size 0 (fun _ _=>.slice none 0 0):=⟨_,zCr w _ _ _,fun _ _ _=>by simp [DataW.atKey]⟩
theorem xN.lt {w:uA} {M n:Nat} {f:Int -> Bool -> uB} (h:xN w M n f):M<w.heap.size:=by obtain ⟨D,h,_⟩:=h;exact World.ownsMap.lt h
theorem xN.chg {S:List Nat} {w w':uA} {M n:Nat} {f:Int -> Bool -> uB} (h:xN w M n f) (hc:fD S w w') (hne:M ∉ S):xN w' M n f:=by
 have hlt:=h.lt
 obtain ⟨D,⟨es,clock,hb,r⟩,h2⟩:=h
 exact ⟨D,⟨es,clock,by rw [hc.block M hlt hne];exact hb,r⟩,h2⟩
theorem xN.below {w w':uA} {M n:Nat} {f:Int -> Bool -> uB} (h:xN w M n f) (hb:Below w.heap.size w w'):xN w' M n f:=h.chg (fD.of_below hb:fD [] w w') (by simp)
theorem xN.mono {w:uA} {M n n':Nat} {f:Int -> Bool -> uB} (h:xN w M n f) (hn:n<=n'):xN w M n' f:=by obtain ⟨D,h,h2⟩:=h;exact ⟨D,h.mono hn,h2⟩
theorem xN.look {w:uA} {M n:Nat} {f:Int -> Bool -> uB} (h:xN w M n f) {k:Int} (hw:(cE .i64 k).wf=true) (b:Bool) :
  (eE 135 (.map (yA M)) (.agg #[k,.bool b]) false).run prog w=.ok (f k b) w:=by
 obtain ⟨D,h,h2⟩:=h
 obtain ⟨v,ps,hrun,hv⟩:=zAP h zIC kY (z:=.slice none 0 0) (by kernel_rfl) (zd:=.held (.slice none 0 0)) (zp:=[]) rfl (zGr hw b)
 rw [hrun]
 rw [h2 k b hw] at hv
 injection hv with hv
 injection hv with hv _
 injection hv with hv
 rw [hv]
theorem xN.store {w:uA} {M n:Nat} {f:Int -> Bool -> uB} (h:xN w M n f) {k:Int} (hw:(cE .i64 k).wf=true) (b:Bool) (u:uB) (hn:n<maxLen) :
  ∃ w',(Instr.mapUpdate 135 (.map (yA M)) (.agg #[k,.bool b]) u).run prog w=.ok () w'/\xN w' M (n+1) (bI f k b u)/\fD [M] w w':=by
 obtain ⟨D,h,h2⟩:=h
 obtain ⟨w',hrun,h3,h4⟩:=rM h zIC kY hn (zGr hw b) (val:=u) (d:=.held u) (ps:=[]) rfl
 refine ⟨w',hrun,⟨_,h3,fun k' b' hw' => ?_⟩,qP h4⟩
 unfold bI
 by_cases e:k'=k/\b'=b
 ·rw [if_pos e,e.1,e.2,zBP (World.ownsMap.isMap h) (zIC.key (zGr hw b))]
 ·rw [if_neg e,zAJ (fun q=>e (zGs hw' hw q)),h2 k' b' hw']
theorem xN.drop {w:uA} {M n:Nat} {f:Int -> Bool -> uB} (h:xN w M n f) {k:Int} (hw:(cE .i64 k).wf=true) (b:Bool) (ty:tC) :
  ∃ w',(Builtin.delete_ #[135,139] ty #[.map (yA M),.agg #[k,.bool b]]).run prog w=.ok (.tuple #[]) w'/\xN w' M n (bI f k b (.slice none 0 0))/\fD [M] w w':=by
 obtain ⟨D,h,h2⟩:=h
 obtain ⟨w',hrun,h3,h4⟩:=World.ownsMap.drop h zIC kY (zGr hw b) ty
 refine ⟨w',hrun,⟨_,h3,fun k' b' hw' => ?_⟩,qP h4⟩
 unfold bI
 by_cases e:k'=k/\b'=b
 ·rw [if_pos e,e.1,e.2,Maps.atKey_del_same]
 ·rw [if_neg e,Maps.atKey_del_other (fun q=>e (zGs hw' hw q)),h2 k' b' hw']
theorem xN.clear {w:uA} {M n:Nat} {f:Int -> Bool -> uB} (h:xN w M n f) (ty:tC) :
  ∃ w',(jE #[135] ty #[.map (yA M)]).run prog w=.ok (.tuple #[]) w'/\xN w' M 0 (fun _ _=>.slice none 0 0)/\fD [M] w w':=by
 obtain ⟨D,⟨es,clock,hb,F,hs,rfl⟩,h2⟩:=h
 have hr:(jE #[135] ty #[.map (yA M)]).run prog w=.ok (.tuple #[]) (lP w M (.map #[] clock)):=by
  simp [jE,run_underlying kY,MapKept.run_getObj_map hb,MapKept.run_setObj_map _ hb,Result.andThen,lP]
 refine ⟨_,hr,⟨.map [],⟨#[],clock,lS hb _,⟨by simp,?_,by simp⟩,by simp,by simp⟩,fun _ _ _=>by simp [DataW.atKey]⟩,qP (⟨es,clock,#[],clock,hb,rfl⟩:w.mapTurned _ M)⟩
 simp [MapKept.Stamped]
end
abbrev Nd:=Int × Int × Int × Int
def qH (x:Nd):List uB:=[.int .i64 x.1,.int .i64 x.2.1,.int .i64 x.2.2.1,.int .i64 x.2.2.2]
theorem yO:∀ x,(qH x).length=4:=fun _=>rfl
theorem zCD:∀ x,∀ u ∈ qH x,u.oneCell'=true:=fun x u hu=>by
 simp only [qH,pE,zG,or_false] at hu
 rcases hu with rfl | rfl | rfl | rfl <;> rfl
theorem zCy:oQ prog 47 207 (.agg #[.int .i64 0,.int .i64 0,.int .i64 0,.int .i64 0]) 4 32:=⟨underlying47,by kernel_rfl,rfl,by omega⟩
theorem pR {w:uA} {A:Option mB} {c:Nat} {xs:List Nd} (h:yB qH w A c xs) {i:Nat} (hi:i<xs.length):∃ b off,A=yA ⟨b,off,none⟩/\b<w.heap.size/\w.cell? ⟨b,off+i * 4,none⟩=yA (.int .i64 (xs[i]'hi).1)/\w.cell? ⟨b,off+i * 4+1,none⟩=yA (.int .i64 (xs[i]'hi).2.1)/\w.cell? ⟨b,off+i * 4+2,none⟩=yA (.int .i64 (xs[i]'hi).2.2.1)/\w.cell? ⟨b,off+i * 4+3,none⟩=yA (.int .i64 (xs[i]'hi).2.2.2):=by
 obtain ⟨b,off,ha,hb,hc⟩:=h.at_ yO hi (by decide)
 exact ⟨b,off,ha,hb,hc 0 _ rfl,hc 1 _ rfl,hc 2 _ rfl,hc 3 _ rfl⟩
abbrev Cr:=Int × Int × Int × Option mB × Nat × Nat
def zDJ (x:Cr):List uB:=[.int .i64 x.1,.int .i64 x.2.1,.int .u32 x.2.2.1,.slice x.2.2.2.1 x.2.2.2.2.1 x.2.2.2.2.2]
theorem jU:∀ x,(zDJ x).length=4:=fun _=>rfl
theorem zEv:∀ x,∀ u ∈ zDJ x,u.oneCell'=true:=fun x u hu=>by
 simp only [zDJ,pE,zG,or_false] at hu
 rcases hu with rfl | rfl | rfl | rfl <;> rfl
theorem zGX:oQ prog 48 65 (.agg #[.int .i64 0,.int .i64 0,.int .u32 0,.slice none 0 0]) 4 48:=⟨underlying48,by kernel_rfl,rfl,by omega⟩
theorem zNQ {w:uA} {A:Option mB} {c:Nat} {xs:List Cr} (h:yB zDJ w A c xs) {i:Nat} (hi:i<xs.length):∃ b off,A=yA ⟨b,off,none⟩/\b<w.heap.size/\w.cell? ⟨b,off+i * 4,none⟩=yA (.int .i64 (xs[i]'hi).1)/\w.cell? ⟨b,off+i * 4+1,none⟩=yA (.int .i64 (xs[i]'hi).2.1)/\w.cell? ⟨b,off+i * 4+2,none⟩=yA (.int .u32 (xs[i]'hi).2.2.1)/\w.cell? ⟨b,off+i * 4+3,none⟩=yA (.slice (xs[i]'hi).2.2.2.1 (xs[i]'hi).2.2.2.2.1 (xs[i]'hi).2.2.2.2.2):=by
 obtain ⟨b,off,ha,hb,hc⟩:=h.at_ jU hi (by decide)
 exact ⟨b,off,ha,hb,hc 0 _ rfl,hc 1 _ rfl,hc 2 _ rfl,hc 3 _ rfl⟩
abbrev Bt:=Int × Int
def zU (x:Bt):List uB:=[.int .i64 x.1,.int .i64 x.2]
theorem zCt:∀ x,(zU x).length=2:=fun _=>rfl
theorem zGN:∀ x,∀ u ∈ zU x,u.oneCell'=true:=fun x u hu=>by
 simp only [zU,pE,zG,or_false] at hu
 rcases hu with rfl | rfl <;> rfl
theorem zGW:oQ prog 52 173 (.agg #[.int .i64 0,.int .i64 0]) 2 16:=⟨underlying52,by kernel_rfl,rfl,by omega⟩
theorem zCU {w:uA} {A:Option mB} {c:Nat} {xs:List Bt} (h:yB zU w A c xs) {i:Nat} (hi:i<xs.length):∃ b off,A=yA ⟨b,off,none⟩/\b<w.heap.size/\w.cell? ⟨b,off+i * 2,none⟩=yA (.int .i64 (xs[i]'hi).1)/\w.cell? ⟨b,off+i * 2+1,none⟩=yA (.int .i64 (xs[i]'hi).2):=by
 obtain ⟨b,off,ha,hb,hc⟩:=h.at_ zCt hi (by decide)
 exact ⟨b,off,ha,hb,hc 0 _ rfl,hc 1 _ rfl⟩
abbrev Le:=Int × Int × Int × Int × Int
def vU (x:Le):List uB:=[.int .i64 x.1,.int .i64 x.2.1,.int .i64 x.2.2.1,.int .i64 x.2.2.2.1,.int .i64 x.2.2.2.2]
theorem zEK:∀ x,(vU x).length=5:=fun _=>rfl
theorem zHc:∀ x,∀ u ∈ vU x,u.oneCell'=true:=fun x u hu=>by
 simp only [vU,pE,zG,or_false] at hu
 rcases hu with rfl | rfl | rfl | rfl | rfl <;> rfl
theorem zAe:oQ prog 53 176 (.agg #[.int .i64 0,.int .i64 0,.int .i64 0,.int .i64 0,.int .i64 0]) 5 40:=⟨underlying53,by kernel_rfl,rfl,by omega⟩
theorem zBd {w:uA} {A:Option mB} {c:Nat} {xs:List Le} (h:yB vU w A c xs) {i:Nat} (hi:i<xs.length):∃ b off,A=yA ⟨b,off,none⟩/\b<w.heap.size/\w.cell? ⟨b,off+i * 5,none⟩=yA (.int .i64 (xs[i]'hi).1)/\w.cell? ⟨b,off+i * 5+1,none⟩=yA (.int .i64 (xs[i]'hi).2.1)/\w.cell? ⟨b,off+i * 5+2,none⟩=yA (.int .i64 (xs[i]'hi).2.2.1)/\w.cell? ⟨b,off+i * 5+3,none⟩=yA (.int .i64 (xs[i]'hi).2.2.2.1)/\w.cell? ⟨b,off+i * 5+4,none⟩=yA (.int .i64 (xs[i]'hi).2.2.2.2):=by
 obtain ⟨b,off,ha,hb,hc⟩:=h.at_ zEK hi (by decide)
 exact ⟨b,off,ha,hb,hc 0 _ rfl,hc 1 _ rfl,hc 2 _ rfl,hc 3 _ rfl,hc 4 _ rfl⟩
abbrev Od:=Int × Int × Int × Int × Int × Int × Int
def qL (x:Od):List uB:=[.int .i64 x.1,.int .i64 x.2.1,.int .i64 x.2.2.1,.int .u32 x.2.2.2.1,.int .i64 x.2.2.2.2.1,.int .i64 x.2.2.2.2.2.1,.int .i64 x.2.2.2.2.2.2]
theorem zW:∀ x,(qL x).length=7:=fun _=>rfl
theorem tS:∀ x,∀ u ∈ qL x,u.oneCell'=true:=fun x u hu=>by
 simp only [qL,pE,zG,or_false] at hu
 rcases hu with rfl | rfl | rfl | rfl | rfl | rfl | rfl <;> rfl
theorem cO:oQ prog 54 105 (.agg #[.int .i64 0,.int .i64 0,.int .i64 0,.int .u32 0,.int .i64 0,.int .i64 0,.int .i64 0]) 7 56:=⟨underlying54,by kernel_rfl,rfl,by omega⟩
theorem zET {w:uA} {A:Option mB} {c:Nat} {xs:List Od} (h:yB qL w A c xs) {i:Nat} (hi:i<xs.length):∃ b off,A=yA ⟨b,off,none⟩/\b<w.heap.size/\w.cell? ⟨b,off+i * 7,none⟩=yA (.int .i64 (xs[i]'hi).1)/\w.cell? ⟨b,off+i * 7+1,none⟩=yA (.int .i64 (xs[i]'hi).2.1)/\w.cell? ⟨b,off+i * 7+2,none⟩=yA (.int .i64 (xs[i]'hi).2.2.1)/\w.cell? ⟨b,off+i * 7+3,none⟩=yA (.int .u32 (xs[i]'hi).2.2.2.1)/\w.cell? ⟨b,off+i * 7+4,none⟩=yA (.int .i64 (xs[i]'hi).2.2.2.2.1)/\w.cell? ⟨b,off+i * 7+5,none⟩=yA (.int .i64 (xs[i]'hi).2.2.2.2.2.1)/\w.cell? ⟨b,off+i * 7+6,none⟩=yA (.int .i64 (xs[i]'hi).2.2.2.2.2.2):=by
 obtain ⟨b,off,ha,hb,hc⟩:=h.at_ zW hi (by decide)
 exact ⟨b,off,ha,hb,hc 0 _ rfl,hc 1 _ rfl,hc 2 _ rfl,hc 3 _ rfl,hc 4 _ rfl,hc 5 _ rfl,hc 6 _ rfl⟩
abbrev Ld:=Int × Int
def zV (x:Ld):List uB:=[.int .i64 x.1,.int .i64 x.2]
theorem zOw:∀ x,(zV x).length=2:=fun _=>rfl
theorem zHb:∀ x,∀ u ∈ zV x,u.oneCell'=true:=fun x u hu=>by
 simp only [zV,pE,zG,or_false] at hu
 rcases hu with rfl | rfl <;> rfl
theorem zEy:oQ prog 115 202 (.agg #[.int .i64 0,.int .i64 0]) 2 16:=⟨underlying115,by kernel_rfl,rfl,by omega⟩
theorem zCZ {w:uA} {A:Option mB} {c:Nat} {xs:List Ld} (h:yB zV w A c xs) {i:Nat} (hi:i<xs.length):∃ b off,A=yA ⟨b,off,none⟩/\b<w.heap.size/\w.cell? ⟨b,off+i * 2,none⟩=yA (.int .i64 (xs[i]'hi).1)/\w.cell? ⟨b,off+i * 2+1,none⟩=yA (.int .i64 (xs[i]'hi).2):=by
 obtain ⟨b,off,ha,hb,hc⟩:=h.at_ zOw hi (by decide)
 exact ⟨b,off,ha,hb,hc 0 _ rfl,hc 1 _ rfl⟩
abbrev Ne:=Int × Int × Int
def zDO (x:Ne):List uB:=[.int .i64 x.1,.int .i64 x.2.1,.int .i64 x.2.2]
theorem zCE:∀ x,(zDO x).length=3:=fun _=>rfl
theorem zRI:∀ x,∀ u ∈ zDO x,u.oneCell'=true:=fun x u hu=>by
 simp only [zDO,pE,zG,or_false] at hu
 rcases hu with rfl | rfl | rfl <;> rfl
theorem zJR:oQ prog 182 258 (.agg #[.int .i64 0,.int .i64 0,.int .i64 0]) 3 24:=⟨underlying182,by kernel_rfl,rfl,by omega⟩
theorem zON {w:uA} {A:Option mB} {c:Nat} {xs:List Ne} (h:yB zDO w A c xs) {i:Nat} (hi:i<xs.length):∃ b off,A=yA ⟨b,off,none⟩/\b<w.heap.size/\w.cell? ⟨b,off+i * 3,none⟩=yA (.int .i64 (xs[i]'hi).1)/\w.cell? ⟨b,off+i * 3+1,none⟩=yA (.int .i64 (xs[i]'hi).2.1)/\w.cell? ⟨b,off+i * 3+2,none⟩=yA (.int .i64 (xs[i]'hi).2.2):=by
 obtain ⟨b,off,ha,hb,hc⟩:=h.at_ zCE hi (by decide)
 exact ⟨b,off,ha,hb,hc 0 _ rfl,hc 1 _ rfl,hc 2 _ rfl⟩
abbrev Rp:=Int × Int × Int × Bool × Bool
def fJ (x:Rp):List uB:=[.int .i64 x.1,.int .i64 x.2.1,.int .u32 x.2.2.1,.bool x.2.2.2.1,.bool x.2.2.2.2]
theorem iO:∀ x,(fJ x).length=5:=fun _=>rfl
theorem zHl:∀ x,∀ u ∈ fJ x,u.oneCell'=true:=fun x u hu=>by
 simp only [fJ,pE,zG,or_false] at hu
 rcases hu with rfl | rfl | rfl | rfl | rfl <;> rfl
theorem oX:oQ prog 119 124 (.agg #[.int .i64 0,.int .i64 0,.int .u32 0,.bool false,.bool false]) 5 24:=⟨underlying119,by kernel_rfl,rfl,by omega⟩
theorem rR {w:uA} {A:Option mB} {c:Nat} {xs:List Rp} (h:yB fJ w A c xs) {i:Nat} (hi:i<xs.length):∃ b off,A=yA ⟨b,off,none⟩/\b<w.heap.size/\w.cell? ⟨b,off+i * 5,none⟩=yA (.int .i64 (xs[i]'hi).1)/\w.cell? ⟨b,off+i * 5+1,none⟩=yA (.int .i64 (xs[i]'hi).2.1)/\w.cell? ⟨b,off+i * 5+2,none⟩=yA (.int .u32 (xs[i]'hi).2.2.1)/\w.cell? ⟨b,off+i * 5+3,none⟩=yA (.bool (xs[i]'hi).2.2.2.1)/\w.cell? ⟨b,off+i * 5+4,none⟩=yA (.bool (xs[i]'hi).2.2.2.2):=by
 obtain ⟨b,off,ha,hb,hc⟩:=h.at_ iO hi (by decide)
 exact ⟨b,off,ha,hb,hc 0 _ rfl,hc 1 _ rfl,hc 2 _ rfl,hc 3 _ rfl,hc 4 _ rfl⟩
abbrev Cx:=Int × Int × Int × Int × Int × Int
def zEw (x:Cx):List uB:=[.int .i64 x.1,.int .i64 x.2.1,.int .i64 x.2.2.1,.int .i64 x.2.2.2.1,.int .i64 x.2.2.2.2.1,.int .i64 x.2.2.2.2.2]
theorem zNR:∀ x,(zEw x).length=6:=fun _=>rfl
theorem zJK:∀ x,∀ u ∈ zEw x,u.oneCell'=true:=fun x u hu=>by
 simp only [zEw,pE,zG,or_false] at hu
 rcases hu with rfl | rfl | rfl | rfl | rfl | rfl <;> rfl
theorem zJQ:oQ prog 101 99 (.agg #[.int .i64 0,.int .i64 0,.int .i64 0,.int .i64 0,.int .i64 0,.int .i64 0]) 6 48:=⟨underlying101,by kernel_rfl,rfl,by omega⟩
theorem zHT {w:uA} {A:Option mB} {c:Nat} {xs:List Cx} (h:yB zEw w A c xs) {i:Nat} (hi:i<xs.length):∃ b off,A=yA ⟨b,off,none⟩/\b<w.heap.size/\w.cell? ⟨b,off+i * 6,none⟩=yA (.int .i64 (xs[i]'hi).1)/\w.cell? ⟨b,off+i * 6+1,none⟩=yA (.int .i64 (xs[i]'hi).2.1)/\w.cell? ⟨b,off+i * 6+2,none⟩=yA (.int .i64 (xs[i]'hi).2.2.1)/\w.cell? ⟨b,off+i * 6+3,none⟩=yA (.int .i64 (xs[i]'hi).2.2.2.1)/\w.cell? ⟨b,off+i * 6+4,none⟩=yA (.int .i64 (xs[i]'hi).2.2.2.2.1)/\w.cell? ⟨b,off+i * 6+5,none⟩=yA (.int .i64 (xs[i]'hi).2.2.2.2.2):=by
 obtain ⟨b,off,ha,hb,hc⟩:=h.at_ zNR hi (by decide)
 exact ⟨b,off,ha,hb,hc 0 _ rfl,hc 1 _ rfl,hc 2 _ rfl,hc 3 _ rfl,hc 4 _ rfl,hc 5 _ rfl⟩
end Go.Proofs.YtogbpifcmhafkaaGreat
