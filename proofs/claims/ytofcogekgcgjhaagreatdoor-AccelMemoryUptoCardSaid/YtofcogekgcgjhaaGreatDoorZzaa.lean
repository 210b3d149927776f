/- Packed. -/
import Derived.Test.YtofcogekgcgjhaaGreatDoorProg
import Derived.Below
import Derived.WalkKit
import Derived.WalkSpells
import Derived.WalkLawsBesides
import Derived.Maps.Own
import Derived.Maps.OwnOps
import Derived.Maps.OwnSet
import Derived.Maps.RangeWalk
import Derived.Deep.LoopGhost
set_option maxRecDepth 100000
namespace Go.Mine
open Go.MapKept
structure d7 (S:Nat->Prop) (w w':World):Prop where
 os:w'.os=w.os
 tape:w'.tape=w.tape
 output:w'.output=w.output
 size:w.heap.size<=w'.heap.size
 block:∀k,k<w.heap.size->¬S k->w'.heap[k]?=w.heap[k]?
theorem d7.refl(S:Nat->Prop)(w:World):d7 S w w:=⟨rfl,rfl,rfl,Nat.le_refl _,fun _ _ _=>rfl⟩
theorem d7.trans{S S':Nat->Prop}{a b c:World}(h:d7 S a b)(k:d7 S' b c)(f:∀i,i<a.heap.size->S' i->S i):d7 S a c:=⟨k.os.trans h.os,k.tape.trans h.tape,k.output.trans h.output,Nat.le_trans h.size k.size,fun i d e=>(k.block i (Nat.lt_of_lt_of_le d h.size) (fun q=>e (f i d q))).trans (h.block i d e)⟩
theorem d7.tr{S:Nat->Prop}{a b c:World}(h:d7 S a b)(k:d7 S b c):d7 S a c:=h.trans k fun _ _ q=>q
theorem d7.comp{S S' T:Nat->Prop}{a b c:World}(h:d7 S a b)(k:d7 S' b c)(e:∀i,i<a.heap.size->S i∨S' i->T i):d7 T a c:=⟨k.os.trans h.os,k.tape.trans h.tape,k.output.trans h.output,Nat.le_trans h.size k.size,fun i d f=>(k.block i (Nat.lt_of_lt_of_le d h.size) (fun q=>f (e i d (.inr q)))).trans (h.block i d fun q=>f (e i d (.inl q)))⟩
theorem d7.mono{S S':Nat->Prop}{a b:World}(h:d7 S a b)(d:∀i,i<a.heap.size->S i->S' i):d7 S' a b:=⟨h.os,h.tape,h.output,h.size,fun i c e=>h.block i c fun q=>e (d i c q)⟩
theorem d7.alloc(S:Nat->Prop)(w:World)(o:Obj):d7 S w (w.alloc o):=⟨rfl,rfl,rfl,by simp,fun k a _=>RowKit.Below.heap_alloc _ _ _ a⟩
theorem d7.drew(S:Nat->Prop)(w:World):d7 S w w.drew:=⟨rfl,rfl,rfl,Nat.le_refl _,fun _ _ _=>rfl⟩
theorem d7.setCell{S:Nat->Prop}{w:World}{p:Addr}(b:S p.block)(c:Value):d7 S w (w.setCell p c):=⟨rfl,rfl,rfl,by simp[World.setCell],fun k _ a=>RowKit.Below.heap_setCell _ _ _ _ (fun e=>a (e▸b))⟩
theorem d7.below{S:Nat->Prop}{B:Nat}{a b:World}(h:d7 S a b)(e:∀k,k<B->¬S k)(d:B<=a.heap.size):RowKit.Below B a b:=⟨h.os,h.tape,h.output,h.size,fun k c=>h.block k (Nat.lt_of_lt_of_le c d) (e k c)⟩
theorem j8{w:World}{b o:Nat}{c:Array Value}{T:TypeId}{f:Nat×Nat}(h:w.heap[b]?=some (.cells c T f))(v:Value):
  (w.setCell ⟨b,o,none⟩ v).heap[b]?=some (.cells (c.setIfInBounds o v) T f):=by
 simp[World.setCell,Array.getElem?_modify,h]
theorem kH{w:World}{a:Addr}{b:Nat}(v:Value)(h:b≠a.block):(w.setCell a v).heap[b]?=w.heap[b]?:=RowKit.Below.heap_setCell _ _ _ _ h
theorem xd(w:World):w.drew.heap=w.heap:=rfl
theorem n8(w:World)(a:Addr)(v:Value):(w.setCell a v).heap.size=w.heap.size:=by simp[World.setCell]
theorem d7.set{S:Nat->Prop}{a w:World}(h:d7 S a w){p:Addr}(c:S p.block)(b:Value):d7 S a (w.setCell p b):=h.tr (d7.setCell c b)
theorem d7.draw{S:Nat->Prop}{a w:World}(h:d7 S a w):d7 S a w.drew:=⟨h.os,h.tape,h.output,h.size,h.block⟩
abbrev _root_.LA:=@List.getElem?_eq_some_iff
abbrev _root_.LB:=@List.getElem?_eq_getElem
abbrev _root_.LC:=@Nat.lt_of_lt_of_le
abbrev _root_.LD:=@decide_eq_false
abbrev _root_.LX:=@decide_eq_true
abbrev _root_.LI:=@List.mem_of_getElem?
abbrev _root_.LK:=@Classical.byContradiction
abbrev _root_.LM:=@List.getElem?_of_mem
abbrev _root_.LO:=@List.eq_nil_of_length_eq_zero
abbrev _root_.LP:=@List.mem_cons_of_mem
abbrev _root_.LQ:=@List.take_of_length_le
abbrev _root_.LR:=@Nat.le_trans
abbrev _root_.LS:=@Nat.le_refl
abbrev _root_.LY:=@List.mem_of_mem_take
abbrev _root_.CZ:=Calls Go.Proofs.Tryz.prog
theorem _root_.Go.RowKit.Hid.o{p:Prop}(h:Go.RowKit.Hid p):p:=h
theorem _root_.EX{b:Sort _}(a:b):∃x,x=a:=⟨a,rfl⟩
theorem TA{S:Nat->Prop}{w:World}{o:Obj}:d7 S w (w.alloc o):=d7.alloc _ _ _
theorem TQ{S:Nat->Prop}{w:World}:d7 S w w:=d7.refl _ _
theorem TD{S:Nat->Prop}{w:World}:d7 S w w.drew:=d7.drew _ _
abbrev TF:=d7 (fun _=>False)
abbrev RT(x:Value)(w:World)(e:Ending)(w':World):Prop:=e=.returned x∧d7 (fun _=>False) w w'
theorem d7.new{S:Nat->Prop}{a w:World}(h:d7 S a w)(o:Obj):d7 S a (w.alloc o):=h.tr (d7.alloc S w o)
theorem i8(w:World)(o:Obj):(w.alloc o).heap[w.heap.size]?=some o:=(heap_alloc w o).1
theorem B4{w:World}{o:Obj}{b:Nat}{x:Obj}(h:w.heap[b]?=some x):(w.alloc o).heap[b]?=some x:=by have a:b<w.heap.size:=(Array.getElem?_eq_some_iff.1 h).1;rw[(heap_alloc w o).2 b a,h]
theorem i6{w:World}{b:Nat}{x:Obj}(h:w.heap[b]?=some x):b<w.heap.size:=(Array.getElem?_eq_some_iff.1 h).1
theorem g9{w:World}{b:Nat}{c:Array Value}{T:TypeId}{f:Nat×Nat}(h:w.heap[b]?=some (.cells c T f))(o:Nat)(v:Value)(a:c[o]?=some v):
  w.cell? ⟨b,o,none⟩=some v:=by simp[World.cell?,h,a]
theorem j7{w:World}{b:Nat}{c:Array Value}{T:TypeId}(h:w.heap[b]?=some (.cells c T (0,0)))(o:Nat):
  w.frozen? ⟨b,o,none⟩=false:=by simp[World.frozen?,h]
structure dH (P:Program) (kt:TypeId) (K:Value->Prop):Prop where
 check:∀(w:World)(em:Bool){v:Value},K v->(Instr.checkKey em 10000 kt v).run P w=.ok () w
 find:∀(w:World){x:Value},K x->∀es:List MapEntry,(∀e∈es,K e.key)->((Instr.findKey kt x es).run P w=.ok none w∧∀e∈es,e.key≠x)∨∃j e,(Instr.findKey kt x es).run P w=.ok (some (j,e.val)) w∧es[j]?=some e∧e.key=x
 stays:∀(w:World){v:Value},K v->(Instr.keyThatStays v v).run P w=.ok v w
theorem jP{P:Program}{kt:TypeId}{d:TypeDesc}(a:P.underlying kt=some d):dH P kt (IsKey d) where
 check w em _ h:=run_checkKey a h em 9999
 find w _ hx es hes:=by
  rcases findNow_spec hx es 0 hes with⟨h1,h2⟩|⟨j,b,h1,h2,h3⟩
  ·exact Or.inl ⟨run_findKey a h1,h2⟩
  ·exact Or.inr ⟨j,b,by simpa using run_findKey a h1,h2,h3⟩
 stays w _ h:=run_keyThatStays h
def z8(K:Value->Prop)(w:World)(b:Nat)(m:Value->Option Value)(n:Nat):Prop:=∃a c,w.heap[b]?=some (.map a c)∧(∀e∈a.toList,K e.key)∧(∀e∈a.toList,m e.key=some e.val)∧(∀k v,m k=some v->∃e∈a.toList,e.key=k)∧a.toList.Pairwise (fun x y=>x.key≠y.key)∧a.size=n
theorem z8.congr{K:Value->Prop}{w w':World}{b:Nat}{m c:Value->Option Value}{n:Nat}(h:z8 K w b m n)(i:w'.heap[b]?=w.heap[b]?)(a:∀k,c k=m k):z8 K w' b c n:=by obtain⟨f,d,h1,h2,h3,h4,g⟩:=h;exact⟨f,d,i.trans h1,h2,fun e j=>(a _).trans (h3 e j),fun k v l=>h4 k v ((a k).symm.trans l),g⟩
theorem z8.lt{K:Value->Prop}{w:World}{b:Nat}{m:Value->Option Value}{n:Nat}(h:z8 K w b m n):b<w.heap.size:=by obtain⟨c,a,h1,_⟩:=h;exact i6 h1
theorem z8.made(K:Value->Prop)(w:World):z8 K (w.alloc (.map #[] 0)) w.heap.size (fun _=>none) 0:=⟨#[],0,i8 _ _,by simp,by simp,by simp,by simp,rfl⟩
section
variable {P:Program} {kt et t:TypeId} {K:Value->Prop} {w:World} {b:Nat} {m:Value->Option Value} {n:Nat}
theorem z8.look(h:z8 K w b m n)(c:dH P kt K)(f:P.underlying t=some (.map kt et)){z:Value}(p:(zeroValue et).run P w=.ok z w){x:Value}(hx:K x):
  (Instr.lookup t (.map (some b)) x false).run P w=.ok ((m x).getD z) w:=by
 obtain⟨g,q,h1,h2,h3,h4,r,s⟩:=h;rcases c.find w hx g.toList h2 with⟨f1,d⟩|⟨j,e,f1,d,i⟩
 ·have a:m x=none:=by
   cases o:m x with|none=>rfl|some v=>obtain⟨e,k,l⟩:=h4 x v o;exact absurd l (d e k)
  simp[Instr.lookup,run_underlying f,MapKept.run_getObj_map h1,c.check w _ hx,f1,p,Result.andThen,a]
 ·have a:=h3 e (List.mem_of_getElem? d);rw[i]at a;simp[Instr.lookup,run_underlying f,MapKept.run_getObj_map h1,c.check w _ hx,f1,Result.andThen,a]
theorem z8.look_ok(h:z8 K w b m n)(c:dH P kt K)(f:P.underlying t=some (.map kt et)){z:Value}(p:(zeroValue et).run P w=.ok z w){x:Value}(hx:K x):
  (Instr.lookup t (.map (some b)) x true).run P w=.ok (.tuple #[(m x).getD z,.bool (m x).isSome]) w:=by
 obtain⟨g,q,h1,h2,h3,h4,r,s⟩:=h;rcases c.find w hx g.toList h2 with⟨f1,d⟩|⟨j,e,f1,d,i⟩
 ·have a:m x=none:=by
   cases o:m x with|none=>rfl|some v=>obtain⟨e,k,l⟩:=h4 x v o;exact absurd l (d e k)
  simp[Instr.lookup,run_underlying f,MapKept.run_getObj_map h1,c.check w _ hx,f1,p,Result.andThen,a]
 ·have a:=h3 e (List.mem_of_getElem? d);rw[i]at a;simp[Instr.lookup,run_underlying f,MapKept.run_getObj_map h1,c.check w _ hx,f1,Result.andThen,a]
theorem z8.len(h:z8 K w b m n)(c:P.underlying t=some (.map kt et))(d:TypeId):(Builtin.len_ #[t] d #[.map (some b)]).run P w=.ok (.int .i64 n) w:=by obtain⟨f,e,h1,h2,h3,h4,g,a⟩:=h;simp[Builtin.len_,run_underlying c,MapKept.run_getObj_map h1,Result.andThen,goInt,a]
open Classical in
theorem z8.update(h:z8 K w b m n)(N:dH P kt K)(ht:P.underlying t=some (.map kt et)){x:Value}(hx:K x)(v:Value):
  ∃w',(Instr.mapUpdate t (.map (some b)) x v).run P w=.ok () w'∧z8 K w' b (fun y=>if y=x then some v else m y) (if(m x).isSome then n else n+1)∧d7 (· =b) w w'∧w'.heap.size=w.heap.size:=by
 obtain⟨f,C,h1,h2,h3,h4,W,X⟩:=h;have O:=fun o'=>heap_set (w:=w) (r:=b) (o':=o') h1
 rcases N.find w hx f.toList h2 with⟨f1,D⟩|⟨j,e,f1,D,E⟩
 ·have R:m x=none:=by
   cases ac:m x with|none=>rfl|some v=>obtain⟨e,d,z⟩:=h4 x v ac;exact absurd z (D e d)
  refine⟨{w with heap:=w.heap.setIfInBounds b (.map (f.push ⟨x,v,C⟩) (C+1))},by simp[Instr.mapUpdate,run_underlying ht,MapKept.run_getObj_map h1,N.check w _ hx,f1,MapKept.run_setObj_map _ h1,Result.andThen],⟨f.push ⟨x,v,C⟩,C+1,(O _).1,?_,?_,?_,?_,?_⟩,⟨rfl,rfl,rfl,by simp,fun k _ T=>(O _).2 k T⟩,by simp⟩
  ·intro e d;rw[Array.toList_push]at d;rcases List.mem_append.1 d with d|d
   ·exact h2 e d
   ·rw[List.mem_singleton]at d;subst d;exact hx
  ·intro e d;rw[Array.toList_push]at d;rcases List.mem_append.1 d with d|d
   ·simp only[];rw[if_neg (D e d)];exact h3 e d
   ·rw[List.mem_singleton]at d;subst d;simp
  ·intro k V M;by_cases z:k=x
   ·exact⟨⟨x,v,C⟩,by simp,z.symm⟩
   ·simp only[z,if_false]at M;obtain⟨e,d,ab⟩:=h4 k V M;exact⟨e,by simp at d ⊢;exact Or.inl d,ab⟩
  ·simp only[Array.toList_push];refine List.pairwise_append.2 ⟨W,by simp,?_⟩;intro a ha c Y;simp at Y;subst Y;exact D a ha
  ·simp[R,X]
 ·have R:=h3 e (List.mem_of_getElem? D);rw[E]at R;have u:f[j]?=some e:=by simpa using D
  have ad:j<f.size:=(Array.getElem?_eq_some_iff.1 u).1;have Q:∀(i:Nat)(y:MapEntry),(f.modify j fun e=>{e with key:=x,val:=v})[i]?=some y->∃G,f[i]?=some G∧y.key=G.key∧(if i=j then y.val=v else y=G):=by
   intro i y g;rw[Array.getElem?_modify]at g;by_cases o:j=i
   ·subst o;simp[u]at g;exact⟨e,u,by rw[<-g,E],by simp[<-g]⟩
   ·rw[if_neg o]at g;exact⟨y,g,rfl,by rw[if_neg (Ne.symm o)]⟩
  have Z:∀(A B:Nat)(H I:MapEntry),f[A]?=some H->f[B]?=some I->A≠B->H.key≠I.key:=by
   intro A B H I e1 e2 U;have p:=List.pairwise_iff_getElem.1 W;obtain⟨l1,s⟩:=Array.getElem?_eq_some_iff.1 e1;obtain⟨l2,l⟩:=Array.getElem?_eq_some_iff.1 e2;rcases Nat.lt_or_gt_of_ne U with L|L
   ·have:=p A B (by simpa using l1) (by simpa using l2) L;simpa[s,l]using this
   ·have:=p B A (by simpa using l2) (by simpa using l1) L;exact fun q=>(by simpa[s,l]using this:I.key≠H.key) q.symm
  refine⟨{w with heap:=w.heap.setIfInBounds b (.map (f.modify j fun e=>{e with key:=x,val:=v}) C)},by simp[Instr.mapUpdate,run_underlying ht,MapKept.run_getObj_map h1,N.check w _ hx,f1,u,E,N.stays w hx,MapKept.run_setObj_map _ h1,Result.andThen],⟨f.modify j fun e=>{e with key:=x,val:=v},C,(O _).1,?_,?_,?_,?_,?_⟩,⟨rfl,rfl,rfl,by simp,fun k _ T=>(O _).2 k T⟩,by simp⟩
  ·intro y g;obtain⟨i,J⟩:=List.getElem?_of_mem g;obtain⟨G,F,s,_⟩:=Q i y (by rw[<-Array.getElem?_toList];exact J);rw[s];exact h2 G (List.mem_of_getElem? (by simpa using F))
  ·intro y g;obtain⟨i,J⟩:=List.getElem?_of_mem g;obtain⟨G,F,s,l⟩:=Q i y (by rw[<-Array.getElem?_toList];exact J);by_cases o:i=j
   ·subst o;rw[u]at F;obtain rfl:=Option.some.inj F;simp only[if_true]at l;simp only[s,E,if_true,l]
   ·simp only[o,if_false]at l;subst l;have U:y.key≠x:=by rw[<-E];exact Z i j y e F u o
    simp only[U,if_false];exact h3 y (List.mem_of_getElem? (by simpa using F))
  ·intro k V M;by_cases z:k=x
   ·refine⟨{e with key:=x,val:=v},?_,z.symm⟩;refine List.mem_of_getElem? (i:=j) ?_;simp[u]
   ·simp only[z,if_false]at M;obtain⟨y,g,aa⟩:=h4 k V M;obtain⟨i,J⟩:=List.getElem?_of_mem g;have S:f[i]?=some y:=by simpa using J
    have o:i≠j:=fun q=>by subst q;rw[u]at S;obtain rfl:=Option.some.inj S;exact z (aa.symm.trans E)
    refine⟨y,List.mem_of_getElem? (i:=i) ?_,aa⟩;simp[Ne.symm o,S]
  ·rw[List.pairwise_iff_getElem];intro A B l1 l2 L;obtain⟨H,s,k1,_⟩:=Q A _ (Array.getElem?_eq_some_iff.2 ⟨by simpa using l1,rfl⟩);obtain⟨I,l,k2,_⟩:=Q B _ (Array.getElem?_eq_some_iff.2 ⟨by simpa using l2,rfl⟩);have:=Z A B H I s l (Nat.ne_of_lt L);simp only[Array.getElem_toList];rw[k1,k2];exact this
  ·simp[R,X]
open Classical in
theorem z8.delete(h:z8 K w b m n)(D:dH P kt K)(S:P.underlying t=some (.map kt et)){x:Value}(hx:K x)(ty:TypeId):
  ∃w',(Builtin.delete_ #[t,kt] ty #[.map (some b),x]).run P w=.ok (.tuple #[]) w'∧z8 K w' b (fun y=>if y=x then none else m y) (if(m x).isSome then n-1 else n)∧d7 (· =b) w w'∧w'.heap.size=w.heap.size:=by
 obtain⟨a,o,h1,h2,h3,h4,F,O⟩:=h;have s:=fun o'=>heap_set (w:=w) (r:=b) (o':=o') h1
 rcases D.find w hx a.toList h2 with⟨f1,g⟩|⟨j,e,f1,g,E⟩
 ·have B:m x=none:=by
   cases X:m x with|none=>rfl|some v=>obtain⟨e,u,d⟩:=h4 x v X;exact absurd d (g e u)
  refine⟨{w with heap:=w.heap.setIfInBounds b (.map a o)},by simp[Builtin.delete_,run_underlying S,MapKept.run_getObj_map h1,D.check w _ hx,f1,MapKept.run_setObj_map _ h1,Result.andThen],⟨a,o,(s _).1,h2,?_,?_,F,?_⟩,⟨rfl,rfl,rfl,by simp,fun k _ I=>(s _).2 k I⟩,by simp⟩
  ·intro e u;simp only[];rw[if_neg (g e u)];exact h3 e u
  ·intro k L f;by_cases d:k=x
   ·simp[d]at f
   ·simp only[d,if_false]at f;exact h4 k L f
  ·simp[B,O]
 ·have B:=h3 e (List.mem_of_getElem? g);rw[E]at B;have G:a[j]?=some e:=by simpa using g
  have R:j<a.size:=(Array.getElem?_eq_some_iff.1 G).1;have z:(a.eraseIdxIfInBounds j).toList=a.toList.eraseIdx j:=by simp[Array.eraseIdxIfInBounds,R,Array.toList_eraseIdx]
  have J:(a.toList.eraseIdx j).Sublist a.toList:=List.eraseIdx_sublist _ _;have V:∀(l:Nat)(C:MapEntry),a[l]?=some C->l≠j->C.key≠x:=by
   intro l C U Y;have p:=List.pairwise_iff_getElem.1 F;obtain⟨l1,M⟩:=Array.getElem?_eq_some_iff.1 U;obtain⟨l2,N⟩:=Array.getElem?_eq_some_iff.1 G;rw[<-E];rcases Nat.lt_or_gt_of_ne Y with H|H
   ·have:=p l j (by simpa using l1) (by simpa using l2) H;simpa[M,N]using this
   ·have:=p j l (by simpa using l2) (by simpa using l1) H;exact fun q=>(by simpa[M,N]using this:e.key≠C.key) q.symm
  refine⟨{w with heap:=w.heap.setIfInBounds b (.map (a.eraseIdxIfInBounds j) o)},by simp[Builtin.delete_,run_underlying S,MapKept.run_getObj_map h1,D.check w _ hx,f1,MapKept.run_setObj_map _ h1,Result.andThen],⟨a.eraseIdxIfInBounds j,o,(s _).1,?_,?_,?_,?_,?_⟩,⟨rfl,rfl,rfl,by simp,fun k _ I=>(s _).2 k I⟩,by simp⟩
  ·intro y c;rw[z]at c;exact h2 y (J.subset c)
  ·intro y c;rw[z]at c;have Z:y.key≠x:=by rw[List.mem_eraseIdx_iff_getElem?]at c;obtain⟨i,W,A⟩:=c;exact V i y (by simpa using A) W
   simp only[Z,if_false];exact h3 y (J.subset c)
  ·intro k L f;by_cases d:k=x
   ·simp[d]at f
   ·simp only[d,if_false]at f;obtain⟨y,c,T⟩:=h4 k L f;obtain⟨i,A⟩:=List.getElem?_of_mem c;refine⟨y,?_,T⟩;rw[z,List.mem_eraseIdx_iff_getElem?];refine⟨i,fun q=>?_,A⟩;subst q;have Q:a[i]?=some y:=by simpa using A
    rw[G]at Q;obtain rfl:=Option.some.inj Q;exact d (T.symm.trans E)
  ·rw[z];exact F.sublist J
  ·simp[B,<-O,Array.eraseIdxIfInBounds,R]
end
section
variable {P:Program} {w:World} {ops:Array Oper} {rest:List Oper} {o:Oper} {a:Act} {Q:Exit->Act->World->Prop}
variable {K:Value->Prop} {b n:Nat} {m:Value->Option Value}
theorem qr(i:o.guard=none)(c d:Operand)(t:TypeId)(l:o.op=Op.lookup t c d false)(kt et:TypeId)(e:dH P kt K)(p:P.underlying t=some (.map kt et))
  (z:Value) (q:(zeroValue et).run P w=.ok z w) (h:z8 K w b m n) (k:a.eval c=.map (some b)) (x:Value) (hx:a.eval d=x) (j:K x)
  (f:wpList P ops Q rest (a.put o.dst ((m x).getD z)) w):wpList P ops Q (o::rest) a w:=by
 refine wpList_plain i fun r g=>?_
 unfold Oper.wp;simp[execOp,l,k,hx,h.look e p q j,Result.andThen];exact g _ _ f
open Classical in
theorem mM(j:o.guard=none)(c e d:Operand)(t:TypeId)(p:o.op=Op.mapUpdate t c e d)(kt et:TypeId)(f:dH P kt K)(r:P.underlying t=some (.map kt et))
  (h:z8 K w b m n) (l:a.eval c=.map (some b)) (x v:Value) (hx:a.eval e=x) (s:a.eval d=v) (k:K x)
  (g:∀w',z8 K w' b (fun y=>if y=x then some v else m y) (if(m x).isSome then n else n+1)->d7 (· =b) w w'->w'.heap.size=w.heap.size->wpList P ops Q rest (a.put o.dst undef) w'):
  wpList P ops Q (o::rest) a w:=by
 refine wpList_plain j fun u i=>?_
 obtain⟨w',q,r1,r2,r3⟩:=h.update f r k v;unfold Oper.wp;simp[execOp,p,l,hx,s,q,Result.andThen];exact i _ _ (g w' r1 r2 r3)
end
theorem i7{p:Prop}(h:p):Go.RowKit.Hid p:=h
theorem j9{w w':World}{T:Nat->Prop}{b:Nat}{o:Obj}(h:w.heap[b]?=some o)(c:d7 T w w')(a:¬T b):w'.heap[b]?=some o:=(c.block b (i6 h) a).trans h
theorem A0{w:World}(o:Obj):TF w (w.alloc o)∧(w.alloc o).heap[w.heap.size]?=some o:=⟨d7.alloc _ _ _,i8 _ _⟩
theorem p8{w:World}(o1 o2:Obj):TF w ((w.alloc o1).alloc o2)∧((w.alloc o1).alloc o2).heap[w.heap.size]?=some o1∧((w.alloc o1).alloc o2).heap[w.heap.size+1]?=some o2:=by refine⟨(d7.alloc _ _ _).new _,B4 (i8 _ _),?_⟩;have:=i8 (w.alloc o1) o2;simpa using this
theorem n7{w:World}{b o:Nat}{v:Value}(h:w.cell? ⟨b,o,none⟩=some v):b<w.heap.size:=by
 simp only[World.cell?]at h;split at h
 ·rename_i h2;exact i6 h2
 ·simp at h
theorem m6{w w':World}{T:Nat->Prop}{b o:Nat}{v:Value}(h:w.cell? ⟨b,o,none⟩=some v)(d:d7 T w w')(c:¬T b):w'.cell? ⟨b,o,none⟩=some v:=(World.cell?_of_block (w:=w) (w':=w') (a:=⟨b,o,none⟩) (d.block b (n7 h) c)).trans h
end Go.Mine
namespace Go.Mine
open Go.MapKept
open Go.ChangeMaps (setBlock)
def D7(w:World)(b:Nat):Prop:=∃a c,w.heap[b]?=some (.map a c)∧(∀e∈a.toList,e.born<c)∧(a.toList.map (·.born)).Nodup
theorem D7.congr{w w':World}{b:Nat}(h:D7 w b)(d:w'.heap[b]?=w.heap[b]?):D7 w' b:=by obtain⟨c,a,h1,h2⟩:=h;exact⟨c,a,d.trans h1,h2⟩
theorem D7.made(w:World):D7 (w.alloc (.map #[] 0)) w.heap.size:=⟨#[],0,i8 _ _,by simp,by simp⟩
section
variable {P:Program} {kt et t:TypeId} {K:Value->Prop} {w:World} {b:Nat} {m:Value->Option Value} {n:Nat}
theorem D7.update(G:D7 w b)(h:z8 K w b m n)(k:dH P kt K)(E:P.underlying t=some (.map kt et)){x:Value}(hx:K x)(v:Value){w':World}
  (l:(Instr.mapUpdate t (.map (some b)) x v).run P w=.ok () w'):D7 w' b:=by
 obtain⟨d,g,h1,h2,h3,h4,N,O⟩:=h;obtain⟨M,L,o,p,A⟩:=G;rw[h1]at o;simp only[Option.some.injEq,Obj.map.injEq]at o;obtain⟨rfl,rfl⟩:=o;have B:=fun o'=>heap_set (w:=w) (r:=b) (o':=o') h1
 rcases k.find w hx d.toList h2 with⟨f1,u⟩|⟨j,e,f1,u,F⟩
 ·have:w'={w with heap:=w.heap.setIfInBounds b (.map (d.push ⟨x,v,g⟩) (g+1))}:=by simp[Instr.mapUpdate,run_underlying E,MapKept.run_getObj_map h1,k.check w _ hx,f1,MapKept.run_setObj_map _ h1,Result.andThen]at l;exact l.symm
  rw[this];refine⟨d.push ⟨x,v,g⟩,g+1,(B _).1,?_,?_⟩
  ·intro e f;rw[Array.toList_push]at f;rcases List.mem_append.1 f with f|f
   ·have:=p e f;omega
   ·rw[List.mem_singleton]at f;subst f;exact Nat.lt_succ_self _
  ·rw[Array.toList_push,List.map_append,List.nodup_append];refine⟨A,by simp,?_⟩;intro a H c I;simp only[List.map_cons,List.map_nil,List.mem_singleton]at I;obtain⟨y,s,rfl⟩:=List.mem_map.1 H;have:=p y s;omega
 ·have D:d[j]?=some e:=by simpa using u
  have:w'={w with heap:=w.heap.setIfInBounds b (.map (d.modify j fun e=>{e with key:=x,val:=v}) g)}:=by simp[Instr.mapUpdate,run_underlying E,MapKept.run_getObj_map h1,k.check w _ hx,f1,D,F,k.stays w hx,MapKept.run_setObj_map _ h1,Result.andThen]at l;exact l.symm
  rw[this];have C:(d.modify j fun e=>{e with key:=x,val:=v}).toList.map (·.born)=d.toList.map (·.born):=by
   apply List.ext_getElem?;intro i;rw[List.getElem?_map,List.getElem?_map,Array.getElem?_toList,Array.getElem?_toList,Array.getElem?_modify];split
   ·rename_i q;subst q;simp[D]
   ·rfl
  refine⟨_,g,(B _).1,?_,by rw[C];exact A⟩;intro y s;have:y.born∈(d.modify j fun e=>{e with key:=x,val:=v}).toList.map (·.born):=List.mem_map.2 ⟨y,s,rfl⟩;rw[C]at this;obtain⟨z,J,e⟩:=List.mem_map.1 this;rw[<-e];exact p z J
theorem D7.delete(v:D7 w b)(h:z8 K w b m n)(f:dH P kt K)(s:P.underlying t=some (.map kt et)){x:Value}(hx:K x)(B:TypeId){w':World}{r:Value}
  (d:(Builtin.delete_ #[t,kt] B #[.map (some b),x]).run P w=.ok r w'):D7 w' b:=by
 obtain⟨a,c,h1,h2,h3,h4,F,G⟩:=h;obtain⟨D,C,g,k,l⟩:=v;rw[h1]at g;simp only[Option.some.injEq,Obj.map.injEq]at g;obtain⟨rfl,rfl⟩:=g;have o:=fun o'=>heap_set (w:=w) (r:=b) (o':=o') h1
 rcases f.find w hx a.toList h2 with⟨f1,i⟩|⟨j,e,f1,i,E⟩
 ·have:w'={w with heap:=w.heap.setIfInBounds b (.map a c)}:=by simp[Builtin.delete_,run_underlying s,MapKept.run_getObj_map h1,f.check w _ hx,f1,MapKept.run_setObj_map _ h1,Result.andThen]at d;exact d.2.symm
  rw[this];exact⟨a,c,(o _).1,k,l⟩
 ·have z:a[j]?=some e:=by simpa using i
  have A:j<a.size:=(Array.getElem?_eq_some_iff.1 z).1;have p:(a.eraseIdxIfInBounds j).toList=a.toList.eraseIdx j:=by simp[Array.eraseIdxIfInBounds,A,Array.toList_eraseIdx]
  have q:(a.toList.eraseIdx j).Sublist a.toList:=List.eraseIdx_sublist _ _;have:w'={w with heap:=w.heap.setIfInBounds b (.map (a.eraseIdxIfInBounds j) c)}:=by simp[Builtin.delete_,run_underlying s,MapKept.run_getObj_map h1,f.check w _ hx,f1,MapKept.run_setObj_map _ h1,Result.andThen]at d;exact d.2.symm
  rw[this];refine⟨_,c,(o _).1,?_,?_⟩
  ·intro y u;rw[p]at u;exact k y (q.subset u)
  ·rw[p];exact l.sublist (q.map _)
end
section
variable {P:Program} {w:World} {ops:Array Oper} {rest:List Oper} {o:Oper} {a:Act} {Q:Exit->Act->World->Prop}
variable {K:Value->Prop} {b n:Nat} {m:Value->Option Value}
open Classical in
theorem fD(q:o.guard=none)(g j i:Operand)(t:TypeId)(s:o.op=Op.mapUpdate t g j i)(kt et:TypeId)(c:dH P kt K)(f:P.underlying t=some (.map kt et))
  (h:z8 K w b m n) (k:D7 w b) (r:a.eval g=.map (some b)) (x v:Value) (hx:a.eval j=x) (u:a.eval i=v) (d:K x)
  (l:∀w',z8 K w' b (fun y=>if y=x then some v else m y) (if(m x).isSome then n else n+1)->D7 w' b->d7 (· =b) w w'->w'.heap.size=w.heap.size->wpList P ops Q rest (a.put o.dst undef) w'):
  wpList P ops Q (o::rest) a w:=by
 refine wpList_plain q fun A p=>?_
 obtain⟨w',e,r1,r2,r3⟩:=h.update c f d v;have z:=k.update h c f d v e;unfold Oper.wp;simp[execOp,s,r,hx,u,e,Result.andThen];exact p _ _ (l w' r1 z r2 r3)
open Classical in
theorem fE(p:o.guard=none)(g i:Operand)(t kt:TypeId)(r:o.op=Op.call {callee:=Callee.builtin Builtin.delete,args:=#[g,i],argTypes:=#[t,kt]})(et:TypeId)(c:dH P kt K)(f:P.underlying t=some (.map kt et))
  (h:z8 K w b m n) (j:D7 w b) (q:a.eval g=.map (some b)) (x:Value) (hx:a.eval i=x) (d:K x)
  (k:∀w',z8 K w' b (fun y=>if y=x then none else m y) (if(m x).isSome then n-1 else n)->D7 w' b->d7 (· =b) w w'->w'.heap.size=w.heap.size->wpList P ops Q rest (a.put o.dst (.tuple #[])) w'):
  wpList P ops Q (o::rest) a w:=by
 refine wpList_plain p fun u l=>?_
 obtain⟨w',e,r1,r2,r3⟩:=h.delete c f d o.type;have s:=j.delete h c f d o.type e;unfold Oper.wp;simp[execOp,r,resolve,invoke,builtin,q,hx,e,Result.andThen];exact l _ _ (k w' r1 s r2 r3)
end
theorem oq{e i:Type}{f:e->i}{xs g:List i}(h:xs.Perm g):∀l:List e,g=l.map f->∃d:List e,d.Perm l∧xs=d.map f:=by
 induction h with
 |nil=>exact fun l c=>⟨l,List.Perm.refl _,c⟩
 |cons x _ j=>
  intro l c;cases l with
  |nil=>simp at c
  |cons a l=>simp only[List.map_cons,List.cons.injEq]at c;obtain⟨d,h1,h2⟩:=j l c.2;exact⟨a::d,h1.cons a,by rw[List.map_cons,<-c.1,h2]⟩
 |swap x y r=>
  intro l c
  match l,c with
  |a::b::l,c=>simp only[List.map_cons,List.cons.injEq]at c;exact⟨b::a::l,List.Perm.swap a b l,by rw[List.map_cons,List.map_cons,<-c.1,<-c.2.1,c.2.2]⟩
 |trans _ _ k m=>intro l c;obtain⟨l1,h1,h2⟩:=m l c;obtain⟨l2,h3,h4⟩:=k l1 h2;exact⟨l2,h3.trans h1,h4⟩
def O8(a:Array MapEntry)(seen:Array Nat)(b:List MapEntry):Prop:=(b++(leftOf a seen).toList).Perm a.toList
theorem O8.start(a:Array MapEntry):O8 a #[] []:=by unfold O8 leftOf;simp only[Array.toList_filter,List.nil_append];rw[List.filter_eq_self.2 (by simp)]
theorem gy(a:Array MapEntry)(seen:Array Nat):(leftOf a seen).toList=a.toList.filter fun x=>!seen.contains x.born:=by unfold leftOf;rw[Array.toList_filter]
theorem perm_filter_one:∀{l:List MapEntry}{e:MapEntry},(l.map (·.born)).Nodup->e∈l->l.Perm (e::l.filter fun x=>!(x.born==e.born))
 | [],_,_,h=>by simp at h
 |x::l,e,hn,h=>by
  rw[List.map_cons,List.nodup_cons]at hn;rcases List.mem_cons.1 h with rfl|h
  ·rw[List.filter_cons];simp only[BEq.rfl,Bool.not_true,Bool.false_eq_true,if_false]
   have:l.filter (fun x=>!(x.born==e.born))=l:=by
    rw[List.filter_eq_self];intro y b;have:y.born≠e.born:=fun q=>hn.1 (List.mem_map.2 ⟨y,b,q⟩)
    simpa using this
   rw[this]
  ·have a:x.born≠e.born:=fun q=>hn.1 (List.mem_map.2 ⟨e,h,q.symm⟩)
   rw[List.filter_cons];have:(!(x.born==e.born))=true:=by simpa using a
   rw[if_pos this];exact((perm_filter_one hn.2 h).cons x).trans (List.Perm.swap e x _)
theorem nn{a:Array MapEntry}{seen:Array Nat}{e:MapEntry}(c:(a.toList.map (·.born)).Nodup)(b:e∈(leftOf a seen).toList):(leftOf a seen).toList.Perm (e::(leftOf a (seen.push e.born)).toList):=by
 have h1:(leftOf a (seen.push e.born)).toList=(leftOf a seen).toList.filter fun x=>!(x.born==e.born):=by rw[gy,gy,List.filter_filter];congr 1;funext x;rw[Array.contains_push];cases seen.contains x.born<;>cases h:x.born==e.born<;>simp_all
 rw[h1];refine perm_filter_one ?_ b;rw[gy];exact c.sublist (List.filter_sublist.map _)
theorem O8.step{a:Array MapEntry}{seen:Array Nat}{b:List MapEntry}{e:MapEntry}(h:O8 a seen b)(d:(a.toList.map (·.born)).Nodup)(c:e∈(leftOf a seen).toList):O8 a (seen.push e.born) (b++[e]):=by unfold O8 at *;refine List.Perm.trans ?_ h;rw[List.append_assoc];exact(List.Perm.append_left b (nn d c).symm)
theorem O8.done{a:Array MapEntry}{seen:Array Nat}{b:List MapEntry}(h:O8 a seen b)(c:(leftOf a seen).size=0):b.Perm a.toList:=by unfold O8 at h;rw[Array.eq_empty_of_size_eq_zero c]at h;simpa using h
theorem xe{a:Array MapEntry}{seen:Array Nat}{e:MapEntry}(c:(a.toList.map (·.born)).Nodup)(b:e∈(leftOf a seen).toList):(leftOf a (seen.push e.born)).size<(leftOf a seen).size:=by have:=(nn c b).length_eq;simp only[List.length_cons,Array.length_toList]at this;omega
theorem fF(w:World)(r:Nat)(o':Obj)(k:Nat)(h:k≠r):(setBlock w r o').heap[k]?=w.heap[k]?:=by unfold setBlock;simp only[Array.getElem?_setIfInBounds];rw[if_neg (Ne.symm h)]
theorem lh{w:World}{r:Nat}{o:Obj}(o':Obj)(h:w.heap[r]?=some o):(setBlock w r o').heap[r]?=some o':=by unfold setBlock;have:=(Array.getElem?_eq_some_iff.1 h).1;simp[this]
theorem d7.setBlockM(w:World)(r:Nat)(o':Obj):d7 (· =r) w (setBlock w r o'):=⟨rfl,rfl,rfl,by unfold ChangeMaps.setBlock;simp,fun k _ a=>fF w r o' k a⟩
section
variable {P:Program} (w:World) {ops:Array Oper} {rest:List Oper} {o:Oper} {a:Act} {Q:Exit->Act->World->Prop}
theorem df(H:o.guard=none)(z:Operand)(u:o.op=Op.next z false)(r d b h:Nat)(seen:Array Nat)(c:Array MapEntry)
  (p:a.eval z=.pointer (some ⟨r,0,none⟩)) (v:w.heap[r]?=some (.mapIter (some d) b seen h)) (n:w.heap[d]?=some (.map c b)) (I:∀x∈c.toList,x.born<b) (t:(c.toList.map (·.born)).Nodup) (J:b<=h)
  (C:(leftOf c seen).size=0->wpList P ops Q rest (a.put o.dst (.tuple #[.bool false])) w)
  (D:∀(e:MapEntry)(f:World),e∈c.toList->e∈(leftOf c seen).toList->(Instr.entry (.pointer (some ⟨r,0,none⟩))).run P f=.ok (.tuple #[e.key,e.val]) f->
   f.heap[r]?=some (.mapIter (some d) b (seen.push e.born) b)->f.heap[d]?=some (.map c b)->d7 (· =r) w f->f.heap.size=w.heap.size->(leftOf c (seen.push e.born)).size<(leftOf c seen).size->
   wpList P ops Q rest (a.put o.dst (.tuple #[.bool true,e.key,e.val])) f):
  wpList P ops Q (o::rest) a w:=by
 refine wpList_plain H fun L m=>?_
 unfold Oper.wp;rcases run_next_at (P:=P) w o.type r d b h seen c b v n I J with⟨B,k⟩|⟨e,F,g,j,k⟩
 ·simp[execOp,u,p,k,Result.andThen];exact m _ _ (C B)
 ·simp[execOp,u,p,k,Result.andThen];have i:e∈(leftOf c seen).toList:=F;have s:e∈c.toList:=by rw[gy]at i;exact(List.mem_filter.1 i).1
  have y:g.heap[r]?=some (.mapIter (some d) b seen h):=by rcases j with rfl|rfl<;>exact v
  have l:g.heap[d]?=some (.map c b):=by rcases j with rfl|rfl<;>exact n
  have E:d≠r:=fun q=>by rw[q,y]at l;simp at l
  have A:d7 (· =r) w g:=by
   rcases j with rfl|rfl
   ·exact d7.refl _ _
   ·exact d7.drew _ _
  have K:g.heap.size=w.heap.size:=by rcases j with rfl|rfl<;>rfl
  have h3:=lh (.mapIter (some d) b (seen.push e.born) b) y;have h4:=(fF g r (.mapIter (some d) b (seen.push e.born) b) d E).trans l;have G:=run_entry_at (P:=P) (setBlock g r (.mapIter (some d) b (seen.push e.born) b)) r d b seen c b e h3 h4 s t;exact m _ _ (D e _ s i G h3 h4 (A.tr (d7.setBlockM _ _ _)) (by rw[<-K];unfold ChangeMaps.setBlock;simp) (xe t i))
end
end Go.Mine
