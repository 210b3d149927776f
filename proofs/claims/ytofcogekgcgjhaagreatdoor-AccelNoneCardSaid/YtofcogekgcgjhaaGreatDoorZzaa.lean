/- Packed. -/
import Derived.WalkKit
import Derived.WalkSpells
import Derived.WalkLawsBesides
import Derived.Maps.Own
import Derived.Maps.OwnOps
import Derived.Maps.OwnSet
import Derived.Maps.RangeWalk
import Derived.Deep.LoopGhost
set_option linter.unusedVariables false
set_option linter.unusedSimpArgs false
set_option maxRecDepth 100000
namespace Go.Mine
open Go.MapKept
structure Turned (S:Nat→Prop) (w w' : World):Prop where
 os:w'.os=w.os
 tape:w'.tape=w.tape
 output:w'.output=w.output
 size:w.heap.size≤w'.heap.size
 block:∀ k,k<w.heap.size→¬ S k→w'.heap[k]? = w.heap[k]?
theorem Turned.refl (S:Nat→Prop) (w:World):Turned S w w:=⟨rfl,rfl,rfl,Nat.le_refl _,fun _ _ _=>rfl⟩
theorem Turned.trans {S S' : Nat→Prop} {a b c:World} (h:Turned S a b) (k:Turned S' b c) (hS:∀ i,i<a.heap.size→S' i→S i):Turned S a c:=
 ⟨k.os.trans h.os,k.tape.trans h.tape,k.output.trans h.output,Nat.le_trans h.size k.size,fun i hi hn=>(k.block i (Nat.lt_of_lt_of_le hi h.size) (fun q=>hn (hS i hi q))).trans (h.block i hi hn)⟩
theorem Turned.comp {S S' T:Nat→Prop} {a b c:World} (h:Turned S a b) (k:Turned S' b c) (hS:∀ i,i<a.heap.size→S i∨S' i→T i):Turned T a c:=
 ⟨k.os.trans h.os,k.tape.trans h.tape,k.output.trans h.output,Nat.le_trans h.size k.size,fun i hi hn=>(k.block i (Nat.lt_of_lt_of_le hi h.size) (fun q=>hn (hS i hi (.inr q)))).trans (h.block i hi fun q=>hn (hS i hi (.inl q)))⟩
theorem Turned.mono {S S' : Nat→Prop} {a b:World} (h:Turned S a b) (hS:∀ i,i<a.heap.size→S i→S' i):Turned S' a b:=
 ⟨h.os,h.tape,h.output,h.size,fun i hi hn=>h.block i hi fun q=>hn (hS i hi q)⟩
theorem Turned.alloc (S:Nat→Prop) (w:World) (o:Obj):Turned S w (w.alloc o):=
 ⟨rfl,rfl,rfl,by simp,fun k hk _=>RowKit.Below.heap_alloc _ _ _ hk⟩
theorem Turned.drew (S:Nat→Prop) (w:World):Turned S w w.drew:=⟨rfl,rfl,rfl,Nat.le_refl _,fun _ _ _=>rfl⟩
theorem Turned.setCell {S:Nat→Prop} {w:World} {p:Addr} (hp:S p.block) (u:Value):Turned S w (w.setCell p u):=
 ⟨rfl,rfl,rfl,by simp [World.setCell],fun k _ hn=>RowKit.Below.heap_setCell _ _ _ _ (fun e=>hn (e ▸ hp))⟩
theorem Turned.below {S:Nat→Prop} {B:Nat} {a b:World} (h:Turned S a b) (hS:∀ k,k<B→¬ S k) (hB:B≤a.heap.size):RowKit.Below B a b:=
 ⟨h.os,h.tape,h.output,h.size,fun k hk=>h.block k (Nat.lt_of_lt_of_le hk hB) (hS k hk)⟩
theorem heap_setCell_same {w:World} {b o:Nat} {c:Array Value} {T:TypeId} {f:Nat×Nat} (h:w.heap[b]? = some (.cells c T f)) (v:Value) :
  (w.setCell ⟨b,o,none⟩ v).heap[b]? = some (.cells (c.setIfInBounds o v) T f):=by
 simp [World.setCell,Array.getElem?_modify,h]
theorem heap_setCell_ne {w:World} {a:Addr} {b:Nat} (v:Value) (h:b≠a.block):(w.setCell a v).heap[b]? = w.heap[b]? :=
 RowKit.Below.heap_setCell _ _ _ _ h
theorem heap_drew (w:World):w.drew.heap=w.heap:=rfl
theorem setCell_size (w:World) (a:Addr) (v:Value):(w.setCell a v).heap.size=w.heap.size:=by simp [World.setCell]
theorem Turned.set {S:Nat→Prop} {a w:World} (h:Turned S a w) {p:Addr} (hp:S p.block) (u:Value):Turned S a (w.setCell p u):=
 h.trans (Turned.setCell hp u) fun _ _ q=>q
theorem Turned.draw {S:Nat→Prop} {a w:World} (h:Turned S a w):Turned S a w.drew:=⟨h.os,h.tape,h.output,h.size,h.block⟩
theorem Turned.new {S:Nat→Prop} {a w:World} (h:Turned S a w) (o:Obj):Turned S a (w.alloc o):=h.trans (Turned.alloc S w o) fun _ _ q=>q
theorem heap_alloc_new (w:World) (o:Obj):(w.alloc o).heap[w.heap.size]? = some o:=(heap_alloc w o).1
theorem heap_alloc_old {w:World} {o:Obj} {b:Nat} {x:Obj} (h:w.heap[b]? = some x):(w.alloc o).heap[b]? = some x:=by
 have hlt:b<w.heap.size:=(Array.getElem?_eq_some_iff.1 h).1
 rw [(heap_alloc w o).2 b hlt,h]
theorem lt_of_block {w:World} {b:Nat} {x:Obj} (h:w.heap[b]? = some x):b<w.heap.size:=(Array.getElem?_eq_some_iff.1 h).1
theorem cell_of {w:World} {b:Nat} {c:Array Value} {T:TypeId} {f:Nat×Nat} (h:w.heap[b]? = some (.cells c T f)) (o:Nat) (v:Value) (hv:c[o]? = some v) :
  w.cell? ⟨b,o,none⟩=some v:=by simp [World.cell?,h,hv]
theorem free_of {w:World} {b:Nat} {c:Array Value} {T:TypeId} (h:w.heap[b]? = some (.cells c T (0,0))) (o:Nat) :
  w.frozen? ⟨b,o,none⟩=false:=by simp [World.frozen?,h]
/-! ### maps -/
structure KeyOk (P:Program) (kt:TypeId) (K:Value→Prop):Prop where
 check:∀ (w:World) (em:Bool) {v:Value},K v→(Instr.checkKey em 10000 kt v).run P w = .ok () w
 find:∀ (w:World) {x:Value},K x→∀ es:List MapEntry,(∀ e∈es,K e.key) →
  ((Instr.findKey kt x es).run P w = .ok none w∧∀ e∈es,e.key≠x)∨∃ j e,(Instr.findKey kt x es).run P w = .ok (some (j,e.val)) w∧es[j]? = some e∧e.key=x
 stays:∀ (w:World) {v:Value},K v→(Instr.keyThatStays v v).run P w = .ok v w
theorem plain_keyOk {P:Program} {kt:TypeId} {d:TypeDesc} (hk:P.underlying kt=some d):KeyOk P kt (IsKey d) where
 check w em _ h:=run_checkKey hk h em 9999
 find w _ hx es hes:=by
  rcases findNow_spec hx es 0 hes with ⟨h1,h2⟩|⟨j,e0,h1,h2,h3⟩
  ·exact Or.inl ⟨run_findKey hk h1,h2⟩
  ·exact Or.inr ⟨j,e0,by simpa using run_findKey hk h1,h2,h3⟩
 stays w _ h:=run_keyThatStays h
theorem KeyOk.mono {P:Program} {kt:TypeId} {K K' : Value→Prop} (h:KeyOk P kt K) (hK:∀ v,K' v→K v):KeyOk P kt K' where
 check w em _ hv:=h.check w em (hK _ hv)
 find w _ hx es hes:=h.find w (hK _ hx) es fun e he=>hK _ (hes e he)
 stays w _ hv:=h.stays w (hK _ hv)
def MapIs (K:Value→Prop) (w:World) (b:Nat) (m:Value→Option Value) (n:Nat):Prop:=
 ∃ es clock,w.heap[b]? = some (.map es clock)∧(∀ e∈es.toList,K e.key)∧(∀ e∈es.toList,m e.key=some e.val) ∧
  (∀ k v,m k=some v→∃ e∈es.toList,e.key=k)∧es.toList.Pairwise (fun x y=>x.key≠y.key)∧es.size=n
theorem MapIs.congr {K:Value→Prop} {w w' : World} {b:Nat} {m m' : Value→Option Value} {n:Nat} (h:MapIs K w b m n) (hb:w'.heap[b]? = w.heap[b]?) (hm:∀ k,m' k=m k):MapIs K w' b m' n:=by
 obtain ⟨es,clock,h1,h2,h3,h4,h5⟩:=h
 exact ⟨es,clock,hb.trans h1,h2,fun e he=>(hm _).trans (h3 e he),fun k v hv=>h4 k v ((hm k).symm.trans hv),h5⟩
theorem MapIs.lt {K:Value→Prop} {w:World} {b:Nat} {m:Value→Option Value} {n:Nat} (h:MapIs K w b m n):b<w.heap.size:=by
 obtain ⟨es,clock,h1,_⟩:=h;exact lt_of_block h1
theorem MapIs.made (K:Value→Prop) (w:World):MapIs K (w.alloc (.map #[] 0)) w.heap.size (fun _=>none) 0:=
 ⟨#[],0,heap_alloc_new _ _,by simp,by simp,by simp,by simp,rfl⟩
section
variable {P:Program} {kt et t:TypeId} {K:Value→Prop} {w:World} {b:Nat} {m:Value→Option Value} {n:Nat}
theorem MapIs.look (h:MapIs K w b m n) (O:KeyOk P kt K) (ht:P.underlying t=some (.map kt et)) {z:Value} (hz:(zeroValue et).run P w = .ok z w) {x:Value} (hx:K x) :
  (Instr.lookup t (.map (some b)) x false).run P w = .ok ((m x).getD z) w:=by
 obtain ⟨es,clock,h1,h2,h3,h4,h5,h6⟩:=h
 rcases O.find w hx es.toList h2 with ⟨f1,f2⟩|⟨j,e,f1,f2,f3⟩
 ·have hm : m x = none := by
   cases hmx:m x with
   |none=>rfl
   |some v=>obtain ⟨e,he,hk⟩:=h4 x v hmx;exact absurd hk (f2 e he)
  simp [Instr.lookup,run_underlying ht,MapKept.run_getObj_map h1,O.check w _ hx,f1,hz,Result.andThen,hm]
 ·have hm := h3 e (List.mem_of_getElem? f2)
  rw [f3]at hm
  simp [Instr.lookup,run_underlying ht,MapKept.run_getObj_map h1,O.check w _ hx,f1,Result.andThen,hm]
theorem MapIs.look_ok (h:MapIs K w b m n) (O:KeyOk P kt K) (ht:P.underlying t=some (.map kt et)) {z:Value} (hz:(zeroValue et).run P w = .ok z w) {x:Value} (hx:K x) :
  (Instr.lookup t (.map (some b)) x true).run P w = .ok (.tuple #[(m x).getD z,.bool (m x).isSome]) w:=by
 obtain ⟨es,clock,h1,h2,h3,h4,h5,h6⟩:=h
 rcases O.find w hx es.toList h2 with ⟨f1,f2⟩|⟨j,e,f1,f2,f3⟩
 ·have hm : m x = none := by
   cases hmx:m x with
   |none=>rfl
   |some v=>obtain ⟨e,he,hk⟩:=h4 x v hmx;exact absurd hk (f2 e he)
  simp [Instr.lookup,run_underlying ht,MapKept.run_getObj_map h1,O.check w _ hx,f1,hz,Result.andThen,hm]
 ·have hm := h3 e (List.mem_of_getElem? f2)
  rw [f3]at hm
  simp [Instr.lookup,run_underlying ht,MapKept.run_getObj_map h1,O.check w _ hx,f1,Result.andThen,hm]
theorem MapIs.len (h:MapIs K w b m n) (ht:P.underlying t=some (.map kt et)) (ty:TypeId):(Builtin.len_ #[t] ty #[.map (some b)]).run P w = .ok (.int .i64 n) w:=by
 obtain ⟨es,clock,h1,h2,h3,h4,h5,h6⟩:=h
 simp [Builtin.len_,run_underlying ht,MapKept.run_getObj_map h1,Result.andThen,goInt,h6]
open Classical in
theorem MapIs.update (h:MapIs K w b m n) (O:KeyOk P kt K) (ht:P.underlying t=some (.map kt et)) {x:Value} (hx:K x) (v:Value) :
  ∃ w',(Instr.mapUpdate t (.map (some b)) x v).run P w = .ok () w'∧MapIs K w' b (fun y=>if y=x then some v else m y) (if (m x).isSome then n else n+1) ∧
   Turned (· = b) w w'∧w'.heap.size=w.heap.size:=by
 obtain ⟨es,clock,h1,h2,h3,h4,h5,h6⟩:=h
 have hb:=fun o'=>heap_set (w:=w) (r:=b) (o':=o') h1
 rcases O.find w hx es.toList h2 with ⟨f1,f2⟩|⟨j,e,f1,f2,f3⟩
 ·have hm : m x = none := by
   cases hmx:m x with
   |none=>rfl
   |some v=>obtain ⟨e,he,hk⟩:=h4 x v hmx;exact absurd hk (f2 e he)
  refine ⟨{ w with heap:=w.heap.setIfInBounds b (.map (es.push ⟨x,v,clock⟩) (clock+1)) },by simp [Instr.mapUpdate,run_underlying ht,MapKept.run_getObj_map h1,O.check w _ hx,f1,MapKept.run_setObj_map _ h1,Result.andThen],
   ⟨es.push ⟨x,v,clock⟩,clock+1,(hb _).1,?_,?_,?_,?_,?_⟩,⟨rfl,rfl,rfl,by simp,fun k _ hn=>(hb _).2 k hn⟩,by simp⟩
  ·intro e he; rw [Array.toList_push] at he; rcases List.mem_append.1 he with he | he
   ·exact h2 e he
   ·rw [List.mem_singleton]at he;subst he;exact hx
  ·intro e he; rw [Array.toList_push] at he; rcases List.mem_append.1 he with he | he
   ·simp only [];rw [if_neg (f2 e he)];exact h3 e he
   ·rw [List.mem_singleton]at he;subst he;simp
  ·intro k u hu
   by_cases hk:k=x
   ·exact ⟨⟨x,v,clock⟩,by simp,hk.symm⟩
   ·simp only [hk, if_false] at hu
    obtain ⟨e,he,hek⟩:=h4 k u hu
    exact ⟨e,by simp at he ⊢;exact Or.inl he,hek⟩
  ·simp only [Array.toList_push]
   refine List.pairwise_append.2 ⟨h5,by simp,?_⟩
   intro a ha c hc;simp at hc;subst hc;exact f2 a ha
  ·simp [hm,h6]
 ·have hm := h3 e (List.mem_of_getElem? f2)
  rw [f3]at hm
  have hej:es[j]? = some e:=by simpa using f2
  have hjl:j<es.size:=(Array.getElem?_eq_some_iff.1 hej).1
  have hkey:∀ (i:Nat) (y:MapEntry),(es.modify j fun e=>{ e with key:=x,val:=v })[i]? = some y→∃ y0,es[i]? = some y0∧y.key=y0.key∧(if i=j then y.val=v else y=y0):=by
   intro i y hy
   rw [Array.getElem?_modify]at hy
   by_cases hij:j=i
   ·subst hij
    simp [hej]at hy
    exact ⟨e,hej,by rw [←hy,f3],by simp [←hy]⟩
   ·rw [if_neg hij] at hy
    exact ⟨y,hy,rfl,by rw [if_neg (Ne.symm hij)]⟩
  have hdist:∀ (i1 i2:Nat) (y1 y2:MapEntry),es[i1]? = some y1→es[i2]? = some y2→i1≠i2→y1.key≠y2.key:=by
   intro i1 i2 y1 y2 e1 e2 hne
   have p:=List.pairwise_iff_getElem.1 h5
   obtain ⟨l1,g1⟩:=Array.getElem?_eq_some_iff.1 e1
   obtain ⟨l2,g2⟩:=Array.getElem?_eq_some_iff.1 e2
   rcases Nat.lt_or_gt_of_ne hne with hl|hl
   ·have := p i1 i2 (by simpa using l1) (by simpa using l2) hl
    simpa [g1,g2] using this
   ·have := p i2 i1 (by simpa using l2) (by simpa using l1) hl
    exact fun q=>(by simpa [g1,g2] using this:y2.key≠y1.key) q.symm
  refine ⟨{ w with heap:=w.heap.setIfInBounds b (.map (es.modify j fun e=>{ e with key:=x,val:=v }) clock) },by simp [Instr.mapUpdate,run_underlying ht,MapKept.run_getObj_map h1,O.check w _ hx,f1,hej,f3,O.stays w hx,MapKept.run_setObj_map _ h1,Result.andThen],
   ⟨es.modify j fun e=>{ e with key:=x,val:=v },clock,(hb _).1,?_,?_,?_,?_,?_⟩,⟨rfl,rfl,rfl,by simp,fun k _ hn=>(hb _).2 k hn⟩,by simp⟩
  ·intro y hy
   obtain ⟨i,hi⟩:=List.getElem?_of_mem hy
   obtain ⟨y0,g0,g1,_⟩:=hkey i y (by rw [←Array.getElem?_toList];exact hi)
   rw [g1];exact h2 y0 (List.mem_of_getElem? (by simpa using g0))
  ·intro y hy
   obtain ⟨i,hi⟩:=List.getElem?_of_mem hy
   obtain ⟨y0,g0,g1,g2⟩:=hkey i y (by rw [←Array.getElem?_toList];exact hi)
   by_cases hij:i=j
   ·subst hij
    rw [hej]at g0;obtain rfl:=Option.some.inj g0
    simp only [if_true]at g2
    simp only [g1,f3,if_true,g2]
   ·simp only [hij, if_false] at g2
    subst g2
    have hne:y.key≠x:=by rw [←f3];exact hdist i j y e g0 hej hij
    simp only [hne,if_false]
    exact h3 y (List.mem_of_getElem? (by simpa using g0))
  ·intro k u hu
   by_cases hk:k=x
   ·refine ⟨{ e with key := x, val := v }, ?_, hk.symm⟩
    refine List.mem_of_getElem? (i:=j) ?_
    simp [hej]
   ·simp only [hk, if_false] at hu
    obtain ⟨y,hy,hyk⟩:=h4 k u hu
    obtain ⟨i,hi⟩:=List.getElem?_of_mem hy
    have hi' : es[i]? = some y:=by simpa using hi
    have hij:i≠j:=fun q=>by subst q;rw [hej]at hi';obtain rfl:=Option.some.inj hi';exact hk (hyk.symm.trans f3)
    refine ⟨y,List.mem_of_getElem? (i:=i) ?_,hyk⟩
    simp [Ne.symm hij,hi']
  ·rw [List.pairwise_iff_getElem]
   intro i1 i2 l1 l2 hl
   obtain ⟨y1,g1,k1,_⟩:=hkey i1 _ (Array.getElem?_eq_some_iff.2 ⟨by simpa using l1,rfl⟩)
   obtain ⟨y2,g2,k2,_⟩:=hkey i2 _ (Array.getElem?_eq_some_iff.2 ⟨by simpa using l2,rfl⟩)
   have:=hdist i1 i2 y1 y2 g1 g2 (Nat.ne_of_lt hl)
   simp only [Array.getElem_toList]
   rw [k1,k2];exact this
  ·simp [hm,h6]
open Classical in
theorem MapIs.delete (h:MapIs K w b m n) (O:KeyOk P kt K) (ht:P.underlying t=some (.map kt et)) {x:Value} (hx:K x) (ty:TypeId) :
  ∃ w',(Builtin.delete_ #[t,kt] ty #[.map (some b),x]).run P w = .ok (.tuple #[]) w'∧MapIs K w' b (fun y=>if y=x then none else m y) (if (m x).isSome then n - 1 else n) ∧
   Turned (· = b) w w'∧w'.heap.size=w.heap.size:=by
 obtain ⟨es,clock,h1,h2,h3,h4,h5,h6⟩:=h
 have hb:=fun o'=>heap_set (w:=w) (r:=b) (o':=o') h1
 rcases O.find w hx es.toList h2 with ⟨f1,f2⟩|⟨j,e,f1,f2,f3⟩
 ·have hm : m x = none := by
   cases hmx:m x with
   |none=>rfl
   |some v=>obtain ⟨e,he,hk⟩:=h4 x v hmx;exact absurd hk (f2 e he)
  refine ⟨{ w with heap:=w.heap.setIfInBounds b (.map es clock) },by simp [Builtin.delete_,run_underlying ht,MapKept.run_getObj_map h1,O.check w _ hx,f1,MapKept.run_setObj_map _ h1,Result.andThen],
   ⟨es,clock,(hb _).1,h2,?_,?_,h5,?_⟩,⟨rfl,rfl,rfl,by simp,fun k _ hn=>(hb _).2 k hn⟩,by simp⟩
  ·intro e he;simp only [];rw [if_neg (f2 e he)];exact h3 e he
  ·intro k u hu
   by_cases hk:k=x
   ·simp [hk]at hu
   ·simp only [hk,if_false]at hu;exact h4 k u hu
  ·simp [hm,h6]
 ·have hm := h3 e (List.mem_of_getElem? f2)
  rw [f3]at hm
  have hej:es[j]? = some e:=by simpa using f2
  have hjl:j<es.size:=(Array.getElem?_eq_some_iff.1 hej).1
  have hers:(es.eraseIdxIfInBounds j).toList=es.toList.eraseIdx j:=by
   simp [Array.eraseIdxIfInBounds,hjl,Array.toList_eraseIdx]
  have hsub:(es.toList.eraseIdx j).Sublist es.toList:=List.eraseIdx_sublist _ _
  have hdist:∀ (i1:Nat) (y1:MapEntry),es[i1]? = some y1→i1≠j→y1.key≠x:=by
   intro i1 y1 e1 hne
   have p:=List.pairwise_iff_getElem.1 h5
   obtain ⟨l1,g1⟩:=Array.getElem?_eq_some_iff.1 e1
   obtain ⟨l2,g2⟩:=Array.getElem?_eq_some_iff.1 hej
   rw [←f3]
   rcases Nat.lt_or_gt_of_ne hne with hl|hl
   ·have := p i1 j (by simpa using l1) (by simpa using l2) hl
    simpa [g1,g2] using this
   ·have := p j i1 (by simpa using l2) (by simpa using l1) hl
    exact fun q=>(by simpa [g1,g2] using this:e.key≠y1.key) q.symm
  refine ⟨{ w with heap:=w.heap.setIfInBounds b (.map (es.eraseIdxIfInBounds j) clock) },by simp [Builtin.delete_,run_underlying ht,MapKept.run_getObj_map h1,O.check w _ hx,f1,MapKept.run_setObj_map _ h1,Result.andThen],
   ⟨es.eraseIdxIfInBounds j,clock,(hb _).1,?_,?_,?_,?_,?_⟩,⟨rfl,rfl,rfl,by simp,fun k _ hn=>(hb _).2 k hn⟩,by simp⟩
  ·intro y hy;rw [hers]at hy;exact h2 y (hsub.subset hy)
  ·intro y hy; rw [hers] at hy
   have hyne:y.key≠x:=by
    rw [List.mem_eraseIdx_iff_getElem?]at hy
    obtain ⟨i,hij,hi⟩:=hy
    exact hdist i y (by simpa using hi) hij
   simp only [hyne,if_false];exact h3 y (hsub.subset hy)
  ·intro k u hu
   by_cases hk:k=x
   ·simp [hk]at hu
   ·simp only [hk, if_false] at hu
    obtain ⟨y,hy,hyk⟩:=h4 k u hu
    obtain ⟨i,hi⟩:=List.getElem?_of_mem hy
    refine ⟨y,?_,hyk⟩
    rw [hers,List.mem_eraseIdx_iff_getElem?]
    refine ⟨i,fun q=>?_,hi⟩
    subst q
    have hi' : es[i]? = some y:=by simpa using hi
    rw [hej]at hi';obtain rfl:=Option.some.inj hi';exact hk (hyk.symm.trans f3)
  ·rw [hers];exact h5.sublist hsub
  ·simp [hm,←h6,Array.eraseIdxIfInBounds,hjl]
end
/-! ### the operations,for the walk -/
section
variable {P:Program} {w:World} {ops:Array Oper} {rest:List Oper} {o:Oper} {a:Act} {Q:Exit→Act→World→Prop}
variable {K:Value→Prop} {b n:Nat} {m:Value→Option Value}
theorem wpList_look (hg:o.guard=none) (mo xo:Operand) (t:TypeId) (hop:o.op=Op.lookup t mo xo false) (kt et:TypeId) (O:KeyOk P kt K) (ht:P.underlying t=some (.map kt et))
  (z:Value) (hz:(zeroValue et).run P w = .ok z w) (h:MapIs K w b m n) (hm:a.eval mo = .map (some b)) (x:Value) (hx:a.eval xo=x) (hk:K x)
  (hK:wpList P ops Q rest (a.put o.dst ((m x).getD z)) w):wpList P ops Q (o :: rest) a w:=by
 refine wpList_plain hg fun K' hK'=>?_
 unfold Oper.wp
 simp [execOp,hop,hm,hx,h.look O ht hz hk,Result.andThen]
 exact hK' _ _ hK
open Classical in
theorem wpList_update (hg:o.guard=none) (mo xo vo:Operand) (t:TypeId) (hop:o.op=Op.mapUpdate t mo xo vo) (kt et:TypeId) (O:KeyOk P kt K) (ht:P.underlying t=some (.map kt et))
  (h:MapIs K w b m n) (hm:a.eval mo = .map (some b)) (x v:Value) (hx:a.eval xo=x) (hv:a.eval vo=v) (hk:K x)
  (hK:∀ w',MapIs K w' b (fun y=>if y=x then some v else m y) (if (m x).isSome then n else n+1)→Turned (· = b) w w'→w'.heap.size=w.heap.size→wpList P ops Q rest (a.put o.dst undef) w') :
  wpList P ops Q (o :: rest) a w:=by
 refine wpList_plain hg fun K' hK'=>?_
 obtain ⟨w',hrun,r1,r2,r3⟩:=h.update O ht hk v
 unfold Oper.wp
 simp [execOp,hop,hm,hx,hv,hrun,Result.andThen]
 exact hK' _ _ (hK w' r1 r2 r3)
end
end Go.Mine
namespace Go.Mine
open Go.MapKept
open Go.ChangeMaps (setBlock)
def Births (w:World) (b:Nat):Prop:=∃ es clock,w.heap[b]? = some (.map es clock)∧(∀ e∈es.toList,e.born<clock)∧(es.toList.map (·.born)).Nodup
theorem Births.congr {w w' : World} {b:Nat} (h:Births w b) (hb:w'.heap[b]? = w.heap[b]?):Births w' b:=by
 obtain ⟨es,clock,h1,h2⟩:=h
 exact ⟨es,clock,hb.trans h1,h2⟩
theorem Births.made (w:World):Births (w.alloc (.map #[] 0)) w.heap.size:=⟨#[],0,heap_alloc_new _ _,by simp,by simp⟩
section
variable {P:Program} {kt et t:TypeId} {K:Value→Prop} {w:World} {b:Nat} {m:Value→Option Value} {n:Nat}
theorem Births.update (hB:Births w b) (h:MapIs K w b m n) (O:KeyOk P kt K) (ht:P.underlying t=some (.map kt et)) {x:Value} (hx:K x) (v:Value) {w' : World}
  (hr:(Instr.mapUpdate t (.map (some b)) x v).run P w = .ok () w'):Births w' b:=by
 obtain ⟨es,clock,h1,h2,h3,h4,h5,h6⟩:=h
 obtain ⟨es',clock',g1,g2,g3⟩:=hB
 rw [h1]at g1
 simp only [Option.some.injEq,Obj.map.injEq]at g1
 obtain ⟨rfl,rfl⟩:=g1
 have hb:=fun o'=>heap_set (w:=w) (r:=b) (o':=o') h1
 rcases O.find w hx es.toList h2 with ⟨f1,f2⟩|⟨j,e,f1,f2,f3⟩
 ·have : w' = { w with heap := w.heap.setIfInBounds b (.map (es.push ⟨x, v, clock⟩) (clock + 1)) } := by
   simp [Instr.mapUpdate,run_underlying ht,MapKept.run_getObj_map h1,O.check w _ hx,f1,MapKept.run_setObj_map _ h1,Result.andThen]at hr
   exact hr.symm
  rw [this]
  refine ⟨es.push ⟨x,v,clock⟩,clock+1,(hb _).1,?_,?_⟩
  ·intro e he
   rw [Array.toList_push]at he
   rcases List.mem_append.1 he with he|he
   ·have:=g2 e he;omega
   ·rw [List.mem_singleton]at he;subst he;exact Nat.lt_succ_self _
  ·rw [Array.toList_push, List.map_append, List.nodup_append]
   refine ⟨g3,by simp,?_⟩
   intro a ha c hc
   simp only [List.map_cons,List.map_nil,List.mem_singleton]at hc
   obtain ⟨y,hy,rfl⟩:=List.mem_map.1 ha
   have:=g2 y hy
   omega
 ·have hej : es[j]? = some e := by simpa using f2
  have:w'={ w with heap:=w.heap.setIfInBounds b (.map (es.modify j fun e=>{ e with key:=x,val:=v }) clock) }:=by
   simp [Instr.mapUpdate,run_underlying ht,MapKept.run_getObj_map h1,O.check w _ hx,f1,hej,f3,O.stays w hx,MapKept.run_setObj_map _ h1,Result.andThen]at hr
   exact hr.symm
  rw [this]
  have hborn:(es.modify j fun e=>{ e with key:=x,val:=v }).toList.map (·.born)=es.toList.map (·.born):=by
   apply List.ext_getElem?
   intro i
   rw [List.getElem?_map,List.getElem?_map,Array.getElem?_toList,Array.getElem?_toList,Array.getElem?_modify]
   split
   ·rename_i q
    subst q
    simp [hej]
   ·rfl
  refine ⟨_,clock,(hb _).1,?_,by rw [hborn];exact g3⟩
  intro y hy
  have:y.born∈(es.modify j fun e=>{ e with key:=x,val:=v }).toList.map (·.born):=List.mem_map.2 ⟨y,hy,rfl⟩
  rw [hborn]at this
  obtain ⟨z,hz,e⟩:=List.mem_map.1 this
  rw [←e]
  exact g2 z hz
theorem Births.delete (hB:Births w b) (h:MapIs K w b m n) (O:KeyOk P kt K) (ht:P.underlying t=some (.map kt et)) {x:Value} (hx:K x) (ty:TypeId) {w' : World} {r:Value}
  (hr:(Builtin.delete_ #[t,kt] ty #[.map (some b),x]).run P w = .ok r w'):Births w' b:=by
 obtain ⟨es,clock,h1,h2,h3,h4,h5,h6⟩:=h
 obtain ⟨es',clock',g1,g2,g3⟩:=hB
 rw [h1]at g1
 simp only [Option.some.injEq,Obj.map.injEq]at g1
 obtain ⟨rfl,rfl⟩:=g1
 have hb:=fun o'=>heap_set (w:=w) (r:=b) (o':=o') h1
 rcases O.find w hx es.toList h2 with ⟨f1,f2⟩|⟨j,e,f1,f2,f3⟩
 ·have : w' = { w with heap := w.heap.setIfInBounds b (.map es clock) } := by
   simp [Builtin.delete_,run_underlying ht,MapKept.run_getObj_map h1,O.check w _ hx,f1,MapKept.run_setObj_map _ h1,Result.andThen]at hr
   exact hr.2.symm
  rw [this]
  exact ⟨es,clock,(hb _).1,g2,g3⟩
 ·have hej : es[j]? = some e := by simpa using f2
  have hjl:j<es.size:=(Array.getElem?_eq_some_iff.1 hej).1
  have hers:(es.eraseIdxIfInBounds j).toList=es.toList.eraseIdx j:=by
   simp [Array.eraseIdxIfInBounds,hjl,Array.toList_eraseIdx]
  have hsub:(es.toList.eraseIdx j).Sublist es.toList:=List.eraseIdx_sublist _ _
  have:w'={ w with heap:=w.heap.setIfInBounds b (.map (es.eraseIdxIfInBounds j) clock) }:=by
   simp [Builtin.delete_,run_underlying ht,MapKept.run_getObj_map h1,O.check w _ hx,f1,MapKept.run_setObj_map _ h1,Result.andThen]at hr
   exact hr.2.symm
  rw [this]
  refine ⟨_,clock,(hb _).1,?_,?_⟩
  ·intro y hy
   rw [hers]at hy
   exact g2 y (hsub.subset hy)
  ·rw [hers]
   exact g3.sublist (hsub.map _)
end
section
variable {P:Program} {w:World} {ops:Array Oper} {rest:List Oper} {o:Oper} {a:Act} {Q:Exit→Act→World→Prop}
variable {K:Value→Prop} {b n:Nat} {m:Value→Option Value}
open Classical in
theorem wpList_updateB (hg:o.guard=none) (mo xo vo:Operand) (t:TypeId) (hop:o.op=Op.mapUpdate t mo xo vo) (kt et:TypeId) (O:KeyOk P kt K) (ht:P.underlying t=some (.map kt et))
  (h:MapIs K w b m n) (hB:Births w b) (hm:a.eval mo = .map (some b)) (x v:Value) (hx:a.eval xo=x) (hv:a.eval vo=v) (hk:K x)
  (hK:∀ w',MapIs K w' b (fun y=>if y=x then some v else m y) (if (m x).isSome then n else n+1)→Births w' b→Turned (· = b) w w'→w'.heap.size=w.heap.size→wpList P ops Q rest (a.put o.dst undef) w') :
  wpList P ops Q (o :: rest) a w:=by
 refine wpList_plain hg fun K' hK'=>?_
 obtain ⟨w',hrun,r1,r2,r3⟩:=h.update O ht hk v
 have r4:=hB.update h O ht hk v hrun
 unfold Oper.wp
 simp [execOp,hop,hm,hx,hv,hrun,Result.andThen]
 exact hK' _ _ (hK w' r1 r4 r2 r3)
open Classical in
theorem wpList_deleteB (hg:o.guard=none) (mo xo:Operand) (t kt:TypeId) (hop:o.op=Op.call { callee:=Callee.builtin Builtin.delete,args:=#[mo,xo],argTypes:=#[t,kt] }) (et:TypeId) (O:KeyOk P kt K) (ht:P.underlying t=some (.map kt et))
  (h:MapIs K w b m n) (hB:Births w b) (hm:a.eval mo = .map (some b)) (x:Value) (hx:a.eval xo=x) (hk:K x)
  (hK:∀ w',MapIs K w' b (fun y=>if y=x then none else m y) (if (m x).isSome then n - 1 else n)→Births w' b→Turned (· = b) w w'→w'.heap.size=w.heap.size→wpList P ops Q rest (a.put o.dst (.tuple #[])) w') :
  wpList P ops Q (o :: rest) a w:=by
 refine wpList_plain hg fun K' hK'=>?_
 obtain ⟨w',hrun,r1,r2,r3⟩:=h.delete O ht hk o.type
 have r4:=hB.delete h O ht hk o.type hrun
 unfold Oper.wp
 simp [execOp,hop,resolve,invoke,builtin,hm,hx,hrun,Result.andThen]
 exact hK' _ _ (hK w' r1 r4 r2 r3)
end
/-! ### Which entries have come -/
theorem perm_map_inv {α β:Type} {f:α→β} {xs ys:List β} (h:xs.Perm ys):∀ l:List α,ys=l.map f→∃ l' : List α,l'.Perm l∧xs=l'.map f:=by
 induction h with
 |nil=>exact fun l hl=>⟨l,List.Perm.refl _,hl⟩
 |cons x _ ih=>
  intro l hl
  cases l with
  |nil=>simp at hl
  |cons a l=>
   simp only [List.map_cons,List.cons.injEq]at hl
   obtain ⟨l',h1,h2⟩:=ih l hl.2
   exact ⟨a :: l',h1.cons a,by rw [List.map_cons,←hl.1,h2]⟩
 |swap x y r=>
  intro l hl
  match l,hl with
  |a :: b :: l,hl=>
   simp only [List.map_cons,List.cons.injEq]at hl
   exact ⟨b :: a :: l,List.Perm.swap a b l,by rw [List.map_cons,List.map_cons,←hl.1,←hl.2.1,hl.2.2]⟩
 |trans _ _ ih1 ih2=>
  intro l hl
  obtain ⟨l1,h1,h2⟩:=ih2 l hl
  obtain ⟨l2,h3,h4⟩:=ih1 l1 h2
  exact ⟨l2,h3.trans h1,h4⟩
def Visit (es:Array MapEntry) (seen:Array Nat) (vis:List MapEntry):Prop:=(vis ++ (leftOf es seen).toList).Perm es.toList
theorem Visit.start (es:Array MapEntry):Visit es #[] []:=by
 unfold Visit leftOf
 simp only [Array.toList_filter,List.nil_append]
 rw [List.filter_eq_self.2 (by simp)]
theorem left_list (es:Array MapEntry) (seen:Array Nat):(leftOf es seen).toList=es.toList.filter fun x=>!seen.contains x.born:=by
 unfold leftOf
 rw [Array.toList_filter]
theorem perm_filter_one:∀ {l:List MapEntry} {e:MapEntry},(l.map (·.born)).Nodup→e∈l→l.Perm (e :: l.filter fun x=>!(x.born == e.born))
 | [],_,_,h=>by simp at h
 |x :: l,e,hn,h=>by
  rw [List.map_cons,List.nodup_cons]at hn
  rcases List.mem_cons.1 h with rfl|h
  ·rw [List.filter_cons]
   simp only [BEq.rfl,Bool.not_true,Bool.false_eq_true,if_false]
   have:l.filter (fun x=>!(x.born == e.born))=l:=by
    rw [List.filter_eq_self]
    intro y hy
    have:y.born≠e.born:=fun q=>hn.1 (List.mem_map.2 ⟨y,hy,q⟩)
    simpa using this
   rw [this]
  ·have hne : x.born ≠ e.born := fun q => hn.1 (List.mem_map.2 ⟨e, h, q.symm⟩)
   rw [List.filter_cons]
   have:(!(x.born == e.born))=true:=by simpa using hne
   rw [if_pos this]
   exact ((perm_filter_one hn.2 h).cons x).trans (List.Perm.swap e x _)
theorem left_step {es:Array MapEntry} {seen:Array Nat} {e:MapEntry} (hn:(es.toList.map (·.born)).Nodup) (he:e∈(leftOf es seen).toList):(leftOf es seen).toList.Perm (e :: (leftOf es (seen.push e.born)).toList):=by
 have h1:(leftOf es (seen.push e.born)).toList=(leftOf es seen).toList.filter fun x=>!(x.born == e.born):=by
  rw [left_list,left_list,List.filter_filter]
  congr 1
  funext x
  rw [Array.contains_push]
  cases seen.contains x.born <;> cases h:x.born == e.born <;> simp_all
 rw [h1]
 refine perm_filter_one ?_ he
 rw [left_list]
 exact hn.sublist (List.filter_sublist.map _)
theorem Visit.step {es:Array MapEntry} {seen:Array Nat} {vis:List MapEntry} {e:MapEntry} (h:Visit es seen vis) (hn:(es.toList.map (·.born)).Nodup) (he:e∈(leftOf es seen).toList):Visit es (seen.push e.born) (vis ++ [e]):=by
 unfold Visit at *
 refine List.Perm.trans ?_ h
 rw [List.append_assoc]
 exact (List.Perm.append_left vis (left_step hn he).symm)
theorem Visit.done {es:Array MapEntry} {seen:Array Nat} {vis:List MapEntry} (h:Visit es seen vis) (h0:(leftOf es seen).size=0):vis.Perm es.toList:=by
 unfold Visit at h
 rw [Array.eq_empty_of_size_eq_zero h0]at h
 simpa using h
theorem left_less {es:Array MapEntry} {seen:Array Nat} {e:MapEntry} (hn:(es.toList.map (·.born)).Nodup) (he:e∈(leftOf es seen).toList):(leftOf es (seen.push e.born)).size<(leftOf es seen).size:=by
 have:=(left_step hn he).length_eq
 simp only [List.length_cons,Array.length_toList]at this
 omega
theorem setBlock_heapM (w:World) (r:Nat) (o' : Obj) (k:Nat) (h:k≠r):(setBlock w r o').heap[k]? = w.heap[k]? := by
 unfold setBlock
 simp only [Array.getElem?_setIfInBounds]
 rw [if_neg (Ne.symm h)]
theorem setBlock_sameM {w:World} {r:Nat} {o:Obj} (o' : Obj) (h:w.heap[r]? = some o):(setBlock w r o').heap[r]? = some o':=by
 unfold setBlock
 have:=(Array.getElem?_eq_some_iff.1 h).1
 simp [this]
theorem Turned.setBlockM (w:World) (r:Nat) (o' : Obj):Turned (· = r) w (setBlock w r o'):=
 ⟨rfl,rfl,rfl,by unfold ChangeMaps.setBlock;simp,fun k _ hk=>setBlock_heapM w r o' k hk⟩
section
variable {P:Program} (w:World) {ops:Array Oper} {rest:List Oper} {o:Oper} {a:Act} {Q:Exit→Act→World→Prop}
theorem wpList_next_es (hg:o.guard=none) (it:Operand) (hop:o.op=Op.next it false) (r bm clock c0:Nat) (seen:Array Nat) (es:Array MapEntry)
  (hit:a.eval it = .pointer (some ⟨r,0,none⟩)) (hr:w.heap[r]? = some (.mapIter (some bm) clock seen c0)) (hb:w.heap[bm]? = some (.map es clock)) (hold:∀ x∈es.toList,x.born<clock) (hnd:(es.toList.map (·.born)).Nodup) (hsc:clock≤c0)
  (hDone:(leftOf es seen).size=0→wpList P ops Q rest (a.put o.dst (.tuple #[.bool false])) w)
  (hMore : ∀ (e : MapEntry) (w3 : World), e ∈ es.toList → e ∈ (leftOf es seen).toList → (Instr.entry (.pointer (some ⟨r, 0, none⟩))).run P w3 = .ok (.tuple #[e.key, e.val]) w3 →
   w3.heap[r]? = some (.mapIter (some bm) clock (seen.push e.born) clock)→w3.heap[bm]? = some (.map es clock)→Turned (· = r) w w3→w3.heap.size=w.heap.size→(leftOf es (seen.push e.born)).size<(leftOf es seen).size →
   wpList P ops Q rest (a.put o.dst (.tuple #[.bool true,e.key,e.val])) w3) :
  wpList P ops Q (o :: rest) a w:=by
 refine wpList_plain hg fun K' hK'=>?_
 unfold Oper.wp
 rcases run_next_at (P:=P) w o.type r bm clock c0 seen es clock hr hb hold hsc with ⟨h0,hrun⟩|⟨e,he,w1,hw,hrun⟩
 ·simp [execOp, hop, hit, hrun, Result.andThen]
  exact hK' _ _ (hDone h0)
 ·simp [execOp, hop, hit, hrun, Result.andThen]
  have he' : e∈(leftOf es seen).toList:=he
  have hmem:e∈es.toList:=by rw [left_list]at he';exact (List.mem_filter.1 he').1
  have hw2r:w1.heap[r]? = some (.mapIter (some bm) clock seen c0):=by rcases hw with rfl|rfl <;> exact hr
  have hw2b:w1.heap[bm]? = some (.map es clock):=by rcases hw with rfl|rfl <;> exact hb
  have hbr:bm≠r:=fun q=>by rw [q,hw2r]at hw2b;simp at hw2b
  have T2:Turned (· = r) w w1:=by
   rcases hw with rfl|rfl
   ·exact Turned.refl _ _
   ·exact Turned.drew _ _
  have hsz:w1.heap.size=w.heap.size:=by rcases hw with rfl|rfl <;> rfl
  have h3:=setBlock_sameM (.mapIter (some bm) clock (seen.push e.born) clock) hw2r
  have h4:=(setBlock_heapM w1 r (.mapIter (some bm) clock (seen.push e.born) clock) bm hbr).trans hw2b
  have hen:=run_entry_at (P:=P) (setBlock w1 r (.mapIter (some bm) clock (seen.push e.born) clock)) r bm clock seen es clock e h3 h4 hmem hnd
  exact hK' _ _ (hMore e _ hmem he' hen h3 h4 (T2.trans (Turned.setBlockM _ _ _) fun _ _ q=>q) (by rw [←hsz];unfold ChangeMaps.setBlock;simp) (left_less hnd he'))
end
end Go.Mine
