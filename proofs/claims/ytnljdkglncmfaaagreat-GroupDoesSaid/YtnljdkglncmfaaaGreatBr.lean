/-
  Part Br of the proof.
-/
import Derived.Test.YtnljdkglncmfaaaGreatBl
import Derived.Test.YtnljdkglncmfaaaGreatVaultM
namespace Go.Proofs.YtnljdkglncmfaaaGreat
open Go.RowKit
set_option linter.unusedVariables false
theorem crash_synced {x:Vt} (hx:VtOk x) (hs:x.2.1=x.1.length) (k:Int):zAD x k=x:=by
  have hn:zDC x k=x.1.length:=by
    unfold zDC
    rw [hs,show (x.1.length:Int) - (x.1.length:Int)+1=1 by omega,Int.emod_one]
    simp
  unfold zAD
  rw [hn,List.take_length,hx.whole]
  simp only [List.take_length]
  rw [← hs]
theorem saveV_le {x:Vt} {t v b bt:Int} {l:List En} (h:x.1.length≤65536):(saveV x t v b bt l).1.length≤65536:=by
  by_cases he:saveE x t v b bt l=0
  · rw [saveV_eq he];exact (saveE_zero he).2.2.2.2.2.2
  · rw [saveV_no he];exact h
theorem crashV_le {x:Vt} {k:Int} (h:x.1.length≤65536):(zAD x k).1.length≤65536:=by
  unfold zAD;simp only [List.length_take];omega
theorem held_le {x:Vt} (hx:VtOk x):x.2.2.2.2.length≤64:=by
  have:=(zAB hx.held.2).2.2.2.2.2.1
  omega
theorem save_any {P:Nat → Prop} (V base:Nat) (x:Vt) (t v bb bt:Int) (a:Option Addr) (cap:Nat) (l:List En) (w:World) (hP:∀ y,w.heap.size≤y → P y) (h:VtAt w V base P x) (hV:V<base) (hb:base≤w.heap.size) (hl:LogIn w a cap l) (hwf:∀ e ∈ l,EnWf e) (hx:VtOk x) (hl65:x.1.length≤65536) :
    Calls Tryz.prog 70 #[.pointer (some ⟨V,0,none⟩),zV t v,logV bb bt a l.length cap] w fun e w'=>e=.returned (.int .i64 (saveE x t v bb bt l))∧VtAt w' V base P (saveV x t v bb bt l)∧Only V w w':=by
  by_cases hg:mayV t v=true∧mayL bb bt l=true∧bb=0∧∀ e ∈ l,zBO e
  · obtain ⟨h1,h2,rfl,h4⟩:=hg
    exact save_good V base x t v bt a cap l w hP h hV hb hl hwf hx hl65 h1 h2 h4
  · have he:=saveE_bad (x:=x) hg
    rw [saveV_no (x:=x) (by rw [he];decide),he]
    refine (save_bad V base x t v bb bt a cap l w h hV hb hl hwf hg).mono ?_
    rintro e w' ⟨rfl,hb1⟩
    exact ⟨rfl,h.below hb1,Only.of_below hb1⟩
end Go.Proofs.YtnljdkglncmfaaaGreat
