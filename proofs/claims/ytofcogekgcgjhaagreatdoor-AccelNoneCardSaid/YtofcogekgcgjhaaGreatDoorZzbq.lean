/- Packed. -/
import Derived.Deep.RegionHeld3
set_option linter.unusedVariables false
set_option linter.unusedSimpArgs false
set_option maxRecDepth 100000
namespace Go.Mine.Ac
open Go
section
variable {P:Program} {ops:Array Oper} {Q:Exit→Act→World→Prop} {md:Region.Mode} {S:World→Prop} {e:Nat}
def anyE (P:Program) (md:Region.Mode) (ops:Array Oper) (Q:Exit→Act→World→Prop) (S:World→Prop) (e:Nat):Nat→Array Bool→Act→World→Prop
 |0,l,a,w=>Region.ready md ops l=[]∧Q .normal a w
 |n+1,l,a,w=>(Region.ready md ops l=[]→Q .normal a w)∧∀ i∈Region.ready md ops l,wpOp P ops Q i (fun b v=>(l.getD e true=true∨i=e∨S v)∧anyE P md ops Q S e n (l.setIfInBounds i true) b v) a w
theorem anyE_any:∀ (n:Nat) (l:Array Bool) (a:Act) (w:World),anyE P md ops Q S e n l a w→wpAny P md ops Q n l a w
 |0,_,_,_,h=>h
 |n+1,_,_,_,h=>⟨h.1,fun i hi=>wpOp_mono (fun b v y=>anyE_any n _ b v y.2) (h.2 i hi)⟩
def waits (md:Region.Mode) (ops:Array Oper) (e i:Nat):Bool:=match ops[e]? with|none=>false|some o=>o.after.any fun x=>Region.binds md x && x.on == i
theorem not_after {i j:Nat} {l:Array Bool} {p:Oper} (hr:i∈Region.ready md ops l) (hj:j∈Region.ready md ops l) (hp:ops[j]? = some p):∀ x∈p.after,Region.binds md x=true→x.on≠i:=fun x hx hb q=>by
 obtain ⟨-,p',hp',hall⟩:=mem_ready.1 hj
 obtain rfl:p=p':=by rw [hp]at hp';exact Option.some.inj hp'
 have h1:=hall x hx hb
 have h0:=(mem_ready.1 hr).1
 rw [q]at h1
 rcases Nat.lt_or_ge i l.size with h'|h'
 ·simp [h']at h0 h1;rw [h0]at h1;cases h1
 ·simp [Array.getElem?_eq_none h']at h1
theorem not_e {i j:Nat} {l:Array Bool} (hw:waits md ops e i=true) (hr:i∈Region.ready md ops l) (hj:j∈Region.ready md ops l):j≠e:=fun q=>by
 subst q
 obtain ⟨-,p,hp,-⟩:=mem_ready.1 hj
 unfold waits at hw
 rw [hp]at hw
 obtain ⟨x,hx,hb⟩:=Array.any_eq_true'.1 hw
 simp only [Bool.and_eq_true,beq_iff_eq]at hb
 exact not_after hr hj hp x hx hb.1 hb.2
def Wts (md:Region.Mode) (ops:Array Oper) (e i:Nat) (l:Array Bool):Prop:=waits md ops e i=true∨∃ k,waits md ops e k=true∧waits md ops k i=true∧l.getD k true=false
theorem Wts.ne {i j:Nat} {l:Array Bool} (h:Wts md ops e i l) (hr:i∈Region.ready md ops l) (hj:j∈Region.ready md ops l):j≠e:=by
 rcases h with h|⟨k,h1,h2,h3⟩
 ·exact not_e h hr hj
 ·intro q
  subst q
  obtain ⟨-,p,hp,hall⟩:=mem_ready.1 hj
  unfold waits at h1
  rw [hp]at h1
  obtain ⟨x,hx,hb⟩:=Array.any_eq_true'.1 h1
  simp only [Bool.and_eq_true,beq_iff_eq]at hb
  have h4:=hall x hx hb.1
  rw [hb.2]at h4
  rcases Nat.lt_or_ge k l.size with h'|h'
  ·simp [h']at h3 h4;rw [h3]at h4;cases h4
  ·simp [Array.getElem?_eq_none h']at h4
theorem Wts.set {i j:Nat} {l:Array Bool} (h:Wts md ops e i l) (hr:i∈Region.ready md ops l) (hj:j∈Region.ready md ops l):Wts md ops e i (l.setIfInBounds j true):=by
 rcases h with h|⟨k,h1,h2,h3⟩
 ·exact .inl h
 ·exact .inr ⟨k,h1,h2,by rw [getD_set_ne true (not_e h2 hr hj)];exact h3⟩
theorem anyE_first {i:Nat} {o:Oper} {v:Value} (hi:ops[i]? = some o) (hsel:∀ (j:Nat) (p:Oper) cs b,ops[j]? = some p→p.op ≠ .select cs b) (hQ:∀ c a w,Q (.panic c) (a.put o.dst v) w→Q (.panic c) a w) :
  ∀ (n:Nat) (l:Array Bool) (a:Act) (w:World),Wts md ops e i l→(∀ j p,ops[j]? = some p→j≠i→l.getD j true=false→(∀ x∈p.after,Region.binds md x=true→x.on≠i)→o.apart ops p=true) →
   i∈Region.ready md ops l→l.getD e true=false→YieldsIf P ops S o v a→S w→anyE P md ops Q S e n (l.setIfInBounds i true) (a.put o.dst v) w→anyE P md ops Q S e (n+1) l a w:=by
 intro n
 induction n with
 |zero=>
  intro l a w hw hf hr he hy hS H
  refine ⟨fun h=>(by rw [h]at hr;cases hr),fun j hj=>?_⟩
  by_cases hji:j=i
  ·rw [hji];exact hy.wpOp hi hS ⟨.inr (.inr hS),H⟩
  ·have := ready_mono hj hji
   rw [H.1]at this
   cases this
 |succ n ih=>
  intro l a w hw hf hr he hy hS H
  refine ⟨fun h=>(by rw [h]at hr;cases hr),fun j hj=>?_⟩
  by_cases hji:j=i
  ·rw [hji];exact hy.wpOp hi hS ⟨.inr (.inr hS),H⟩
  ·have h1 := H.2 j (ready_mono hj hji)
   obtain ⟨hun,p,hp,hall⟩:=mem_ready.1 hj
   have hno:=not_after hr hj hp
   have hje:=hw.ne hr hj
   have hei:i≠e:=hw.ne hr hr
   have h2:=wpOp_putIf hp (hf j p hp hji hun hno) (fun cs b=>hsel i o cs b hi) (fun cs b=>hsel j p cs b hp) hQ hy h1
   have he2:(l.setIfInBounds i true).getD e true=false:=by rw [getD_set_ne true hei];exact he
   refine wpOp_mono (fun b u h3=>⟨.inr ?_,ih (l.setIfInBounds j true) b u (hw.set hr hj) (fun k q hk hki hku hn=>?_) (ready_mono hr (Ne.symm hji)) (by rw [getD_set_ne true hje];exact he) h3.1 ?_ ?_⟩) h2
   ·exact h3.2.1.resolve_left (by rw [he2];decide)
   ·refine hf k q hk hki ?_ hn
    by_cases hjk:j=k
    ·rw [←hjk];exact hun
    ·rw [getD_set_ne true hjk]at hku;exact hku
   ·exact (h3.2.1.resolve_left (by rw [he2];decide)).resolve_left hje
   ·rw [Array.setIfInBounds_comm _ _ hji]
    exact h3.2.2
theorem anyE_first0 {i:Nat} {o:Oper} {v:Value} (hi:ops[i]? = some o) (hsel:∀ (j:Nat) (p:Oper) cs b,ops[j]? = some p→p.op ≠ .select cs b) (hQ:∀ c a w,Q (.panic c) (a.put o.dst v) w→Q (.panic c) a w) (hei:i≠e) :
  ∀ (n:Nat) (l:Array Bool) (a:Act) (w:World),(∀ j p,ops[j]? = some p→j≠i→l.getD j true=false→(∀ x∈p.after,Region.binds md x=true→x.on≠i)→o.apart ops p=true) →
   i∈Region.ready md ops l→YieldsIf P ops (fun _=>True) o v a→(l.getD e true=true∨S w)→anyE P md ops Q S e n (l.setIfInBounds i true) (a.put o.dst v) w→anyE P md ops Q S e (n+1) l a w:=by
 intro n
 induction n with
 |zero=>
  intro l a w hf hr hy hS H
  refine ⟨fun h=>(by rw [h]at hr;cases hr),fun j hj=>?_⟩
  by_cases hji:j=i
  ·rw [hji];exact hy.wpOp hi trivial ⟨hS.imp id .inr,H⟩
  ·have := ready_mono hj hji
   rw [H.1]at this
   cases this
 |succ n ih=>
  intro l a w hf hr hy hS H
  refine ⟨fun h=>(by rw [h]at hr;cases hr),fun j hj=>?_⟩
  by_cases hji:j=i
  ·rw [hji];exact hy.wpOp hi trivial ⟨hS.imp id .inr,H⟩
  ·have h1 := H.2 j (ready_mono hj hji)
   obtain ⟨hun,p,hp,hall⟩:=mem_ready.1 hj
   have hno:=not_after hr hj hp
   have h2:=wpOp_putIf hp (hf j p hp hji hun hno) (fun cs b=>hsel i o cs b hi) (fun cs b=>hsel j p cs b hp) hQ hy h1
   refine wpOp_mono (fun b u h3=>⟨?_,ih (l.setIfInBounds j true) b u (fun k q hk hki hku hn=>?_) (ready_mono hr (Ne.symm hji)) h3.1 ?_ ?_⟩) h2
   ·have := h3.2.1
    rw [getD_set_ne true hei]at this
    exact this
   ·refine hf k q hk hki ?_ hn
    by_cases hjk:j=k
    ·rw [←hjk];exact hun
    ·rw [getD_set_ne true hjk]at hku;exact hku
   ·have := h3.2.1
    rw [getD_set_ne true hei]at this
    rcases this with z|z|z
    ·left
     by_cases hje:j=e
     ·rw [hje,Array.getD_eq_getD_getElem?];simp [Array.getElem?_setIfInBounds];split <;> simp_all
     ·rw [getD_set_ne true hje];exact z
    ·left
     rw [z,Array.getD_eq_getD_getElem?];simp [Array.getElem?_setIfInBounds];split <;> simp_all
    ·exact .inr z
   ·rw [Array.setIfInBounds_comm _ _ hji]
    exact h3.2.2
theorem anyE_take {i:Nat} {o:Oper} {v:Value} {n:Nat} {l:Array Bool} {a:Act} {w:World} (hi:ops[i]? = some o) (hs:Region.noSelect ops=true) (hf:Region.free md ops l i=true) (hr:(Region.ready md ops l).contains i=true) (hw:Wts md ops e i l) (he:l.getD e true=false)
  (hQ:∀ c a w,Q (.panic c) (a.put o.dst v) w→Q (.panic c) a w) (hy:YieldsIf P ops S o v a) (hS:S w) (h:anyE P md ops Q S e n (l.setIfInBounds i true) (a.put o.dst v) w):anyE P md ops Q S e (n+1) l a w:=
 anyE_first hi (Region.noSelect_spec hs) hQ n l a w hw (Region.free_spec hi hf) (by simpa using hr) he hy hS h
theorem anyE_take0 {i:Nat} {o:Oper} {v:Value} {n:Nat} {l:Array Bool} {a:Act} {w:World} (hi:ops[i]? = some o) (hs:Region.noSelect ops=true) (hf:Region.free md ops l i=true) (hr:(Region.ready md ops l).contains i=true) (hei:i≠e)
  (hQ:∀ c a w,Q (.panic c) (a.put o.dst v) w→Q (.panic c) a w) (hy:YieldsIf P ops (fun _=>True) o v a) (hS:l.getD e true=true∨S w) (h:anyE P md ops Q S e n (l.setIfInBounds i true) (a.put o.dst v) w):anyE P md ops Q S e (n+1) l a w:=
 anyE_first0 hi (Region.noSelect_spec hs) hQ hei n l a w (Region.free_spec hi hf) (by simpa using hr) hy hS h
def allE (P:Program) (md:Region.Mode) (ops:Array Oper) (Q:Exit→Act→World→Prop) (S:World→Prop) (e:Nat) (n:Nat) (l:Array Bool) (a:Act) (w:World) (rs:List Nat):Prop:=
 ∀ i∈rs,wpOp P ops Q i (fun b v=>(l.getD e true=true∨i=e∨S v)∧anyE P md ops Q S e n (l.setIfInBounds i true) b v) a w
theorem allE_nil {n:Nat} {l:Array Bool} {a:Act} {w:World}:allE P md ops Q S e n l a w []:=fun _ h=>by cases h
theorem allE_cons {n:Nat} {l:Array Bool} {a:Act} {w:World} {i:Nat} {o:Oper} {rs:List Nat} (ho:ops[i]? = some o)
  (h:∀ K' : Act→World→Prop,Shut (∀ a w,(l.getD e true=true∨i=e∨S w)→anyE P md ops Q S e n (l.setIfInBounds i true) a w→K' a w)→if Region.wanted o (yielded ops a.tmps)=true then Oper.wp P o a w K' Q else K' (a.put o.dst undef) w)
  (hs:allE P md ops Q S e n l a w rs):allE P md ops Q S e n l a w (i :: rs):=fun j hj=>by
 rcases List.mem_cons.1 hj with rfl|hj
 ·exact wpOp_step ho (fun K' hK=>h K' (fun a w hS hW=>hK a w ⟨hS,hW⟩))
 ·exact hs j hj
theorem anyE_ready {rs:List Nat} {n:Nat} {l:Array Bool} {a:Act} {w:World} (hr:Region.ready md ops l=rs) (hne:rs≠[]) (h:allE P md ops Q S e n l a w rs):anyE P md ops Q S e (n+1) l a w:=
 ⟨fun h0=>absurd (hr ▸ h0) hne,hr ▸ h⟩
theorem anyE_done {l:Array Bool} {a:Act} {w:World} (hr:Region.ready md ops l=[]) (h:Q .normal a w):∀ n,anyE P md ops Q S e n l a w
 |0=>⟨hr,h⟩
 |_+1=>⟨fun _=>h,by rw [hr];simp⟩
theorem region_E {id:Nat} {a:Act} {w:World} (e:Nat) (S:World→Prop) (hm:P.follows .mixedOrders=true) (h:anyE P .any ops Q S e ops.size (Array.replicate ops.size false) a w.drew):(Code.region id ops true).wp P Q a w:=
 wp_region_any hm (anyE_any _ _ _ _ h)
end
end Go.Mine.Ac
namespace Go.Mine.Ac
open Go
section
variable {P:Program} {ops:Array Oper} {Q:Exit→Act→World→Prop} {md:Region.Mode} {S:World→Prop} {e:Nat}
theorem not_up {a b j:Nat} {l:Array Bool} (h2:waits md ops a b=true) (h3:l.getD b true=false) (hj:j∈Region.ready md ops l):j≠a:=fun q=>by
 subst q
 obtain ⟨-,p,hp,hall⟩:=mem_ready.1 hj
 unfold waits at h2
 rw [hp]at h2
 obtain ⟨x,hx,hb⟩:=Array.any_eq_true'.1 h2
 simp only [Bool.and_eq_true,beq_iff_eq]at hb
 have h4:=hall x hx hb.1
 rw [hb.2]at h4
 rcases Nat.lt_or_ge b l.size with h'|h'
 ·simp [h']at h3 h4;rw [h3]at h4;cases h4
 ·simp [Array.getElem?_eq_none h']at h4
def Wt3 (md:Region.Mode) (ops:Array Oper) (e i:Nat) (l:Array Bool):Prop:=∃ k m,waits md ops e k=true∧waits md ops k m=true∧waits md ops m i=true∧l.getD k true=false∧l.getD m true=false
theorem Wt3.ne {i j:Nat} {l:Array Bool} (h:Wt3 md ops e i l) (hj:j∈Region.ready md ops l):j≠e:=by
 obtain ⟨k,m,h1,h2,h3,h4,h5⟩:=h
 exact not_up h1 h4 hj
theorem Wt3.set {i j:Nat} {l:Array Bool} (h:Wt3 md ops e i l) (hr:i∈Region.ready md ops l) (hj:j∈Region.ready md ops l):Wt3 md ops e i (l.setIfInBounds j true):=by
 obtain ⟨k,m,h1,h2,h3,h4,h5⟩:=h
 exact ⟨k,m,h1,h2,h3,by rw [getD_set_ne true (not_up h2 h5 hj)];exact h4,by rw [getD_set_ne true (not_e h3 hr hj)];exact h5⟩
theorem anyE_first3 {i:Nat} {o:Oper} {v:Value} (hi:ops[i]? = some o) (hsel:∀ (j:Nat) (p:Oper) cs b,ops[j]? = some p→p.op ≠ .select cs b) (hQ:∀ c a w,Q (.panic c) (a.put o.dst v) w→Q (.panic c) a w) :
  ∀ (n:Nat) (l:Array Bool) (a:Act) (w:World),Wt3 md ops e i l→(∀ j p,ops[j]? = some p→j≠i→l.getD j true=false→(∀ x∈p.after,Region.binds md x=true→x.on≠i)→o.apart ops p=true) →
   i∈Region.ready md ops l→l.getD e true=false→YieldsIf P ops S o v a→S w→anyE P md ops Q S e n (l.setIfInBounds i true) (a.put o.dst v) w→anyE P md ops Q S e (n+1) l a w:=by
 intro n
 induction n with
 |zero=>
  intro l a w hw hf hr he hy hS H
  refine ⟨fun h=>(by rw [h]at hr;cases hr),fun j hj=>?_⟩
  by_cases hji:j=i
  ·rw [hji];exact hy.wpOp hi hS ⟨.inr (.inr hS),H⟩
  ·have := ready_mono hj hji
   rw [H.1]at this
   cases this
 |succ n ih=>
  intro l a w hw hf hr he hy hS H
  refine ⟨fun h=>(by rw [h]at hr;cases hr),fun j hj=>?_⟩
  by_cases hji:j=i
  ·rw [hji];exact hy.wpOp hi hS ⟨.inr (.inr hS),H⟩
  ·have h1 := H.2 j (ready_mono hj hji)
   obtain ⟨hun,p,hp,hall⟩:=mem_ready.1 hj
   have hno:=not_after hr hj hp
   have hje:=hw.ne hj
   have hei:i≠e:=hw.ne hr
   have h2:=wpOp_putIf hp (hf j p hp hji hun hno) (fun cs b=>hsel i o cs b hi) (fun cs b=>hsel j p cs b hp) hQ hy h1
   have he2:(l.setIfInBounds i true).getD e true=false:=by rw [getD_set_ne true hei];exact he
   refine wpOp_mono (fun b u h3=>⟨.inr ?_,ih (l.setIfInBounds j true) b u (hw.set hr hj) (fun k q hk hki hku hn=>?_) (ready_mono hr (Ne.symm hji)) (by rw [getD_set_ne true hje];exact he) h3.1 ?_ ?_⟩) h2
   ·exact h3.2.1.resolve_left (by rw [he2];decide)
   ·refine hf k q hk hki ?_ hn
    by_cases hjk:j=k
    ·rw [←hjk];exact hun
    ·rw [getD_set_ne true hjk]at hku;exact hku
   ·exact (h3.2.1.resolve_left (by rw [he2];decide)).resolve_left hje
   ·rw [Array.setIfInBounds_comm _ _ hji]
    exact h3.2.2
theorem anyE_take3 {i:Nat} {o:Oper} {v:Value} {n:Nat} {l:Array Bool} {a:Act} {w:World} (hi:ops[i]? = some o) (hs:Region.noSelect ops=true) (hf:Region.free md ops l i=true) (hr:(Region.ready md ops l).contains i=true) (hw:Wt3 md ops e i l) (he:l.getD e true=false)
  (hQ:∀ c a w,Q (.panic c) (a.put o.dst v) w→Q (.panic c) a w) (hy:YieldsIf P ops S o v a) (hS:S w) (h:anyE P md ops Q S e n (l.setIfInBounds i true) (a.put o.dst v) w):anyE P md ops Q S e (n+1) l a w:=
 anyE_first3 hi (Region.noSelect_spec hs) hQ n l a w hw (Region.free_spec hi hf) (by simpa using hr) he hy hS h
end
end Go.Mine.Ac
