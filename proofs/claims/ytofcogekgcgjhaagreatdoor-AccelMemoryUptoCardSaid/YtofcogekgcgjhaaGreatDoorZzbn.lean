/- Packed. -/
import Derived.Deep.RegionHeld3
set_option maxRecDepth 100000
namespace Go.Mine.Ac
open Go
section
variable {P:Program} {ops:Array Oper} {Q:Exit->Act->World->Prop} {md:Region.Mode} {S:World->Prop} {e:Nat}
def fj(P:Program)(md:Region.Mode)(ops:Array Oper)(Q:Exit->Act->World->Prop)(S:World->Prop)(e:Nat):Nat->Array Bool->Act->World->Prop
 |0,l,a,w=>Region.ready md ops l=[]∧Q .normal a w
 |n+1,l,a,w=>(Region.ready md ops l=[]->Q .normal a w)∧∀i∈Region.ready md ops l,wpOp P ops Q i (fun b v=>(l.getD e true=true∨i=e∨S v)∧fj P md ops Q S e n (l.setIfInBounds i true) b v) a w
theorem anyE_any:∀(n:Nat)(l:Array Bool)(a:Act)(w:World),fj P md ops Q S e n l a w->wpAny P md ops Q n l a w
 |0,_,_,_,h=>h
 |n+1,_,_,_,h=>⟨h.1,fun i c=>wpOp_mono (fun b v y=>anyE_any n _ b v y.2) (h.2 i c)⟩
def gt(md:Region.Mode)(ops:Array Oper)(e i:Nat):Bool:=match ops[e]?with|none=>false|some o=>o.after.any fun x=>Region.binds md x && x.on==i
theorem gG{i j:Nat}{l:Array Bool}{p:Oper}(h:i∈Region.ready md ops l)(f:j∈Region.ready md ops l)(g:ops[j]?=some p):∀x∈p.after,Region.binds md x=true->x.on≠i:=fun x hx e q=>by
 obtain⟨-,k,c,d⟩:=mem_ready.1 f;obtain rfl:p=k:=by rw[g]at c;exact Option.some.inj c
 have h1:=d x hx e;have b:=(mem_ready.1 h).1;rw[q]at h1;rcases Nat.lt_or_ge i l.size with a|a
 ·simp[a]at b h1;rw[b]at h1;cases h1
 ·simp[Array.getElem?_eq_none a]at h1
theorem Az{i j:Nat}{l:Array Bool}(b:gt md ops e i=true)(f:i∈Region.ready md ops l)(c:j∈Region.ready md ops l):j≠e:=fun q=>by subst q;obtain⟨-,p,d,-⟩:=mem_ready.1 c;unfold gt at b;rw[d]at b;obtain⟨x,hx,a⟩:=Array.any_eq_true'.1 b;simp only[Bool.and_eq_true,beq_iff_eq]at a;exact gG f c d x hx a.1 a.2
def Ee(md:Region.Mode)(ops:Array Oper)(e i:Nat)(l:Array Bool):Prop:=gt md ops e i=true∨∃k,gt md ops e k=true∧gt md ops k i=true∧l.getD k true=false
theorem Ee.ne{i j:Nat}{l:Array Bool}(h:Ee md ops e i l)(g:i∈Region.ready md ops l)(c:j∈Region.ready md ops l):j≠e:=by
 rcases h with h|⟨k,h1,h2,h3⟩
 ·exact Az h g c
 ·intro q;subst q;obtain⟨-,p,f,d⟩:=mem_ready.1 c;unfold gt at h1;rw[f]at h1;obtain⟨x,hx,b⟩:=Array.any_eq_true'.1 h1;simp only[Bool.and_eq_true,beq_iff_eq]at b;have h4:=d x hx b.1;rw[b.2]at h4;rcases Nat.lt_or_ge k l.size with a|a
  ·simp[a]at h3 h4;rw[h3]at h4;cases h4
  ·simp[Array.getElem?_eq_none a]at h4
theorem Ee.set{i j:Nat}{l:Array Bool}(h:Ee md ops e i l)(b:i∈Region.ready md ops l)(a:j∈Region.ready md ops l):Ee md ops e i (l.setIfInBounds j true):=by
 rcases h with h|⟨k,h1,h2,h3⟩
 ·exact .inl h
 ·exact .inr ⟨k,h1,h2,by rw[getD_set_ne true (Az h2 b a)];exact h3⟩
theorem vE{i:Nat}{o:Oper}{v:Value}(B:ops[i]?=some o)(G:∀(j:Nat)(p:Oper)r b,ops[j]?=some p->p.op≠.select r b)(I:∀c a w,Q (.panic c) (a.put o.dst v) w->Q (.panic c) a w):
  ∀(n:Nat)(l:Array Bool)(a:Act)(w:World),Ee md ops e i l->(∀j p,ops[j]?=some p->j≠i->l.getD j true=false->(∀x∈p.after,Region.binds md x=true->x.on≠i)->o.apart ops p=true)->i∈Region.ready md ops l->l.getD e true=false->YieldsIf P ops S o v a->S w->fj P md ops Q S e n (l.setIfInBounds i true) (a.put o.dst v) w->fj P md ops Q S e (n+1) l a w:=by
 intro n
 induction n with
 |zero=>
  intro l a w u A d z y s m;refine⟨fun h=>(by rw[h]at d;cases d),fun j g=>?_⟩;by_cases f:j=i
  ·rw[f];exact y.wpOp B s ⟨.inr (.inr s),m⟩
  ·have:=ready_mono g f;rw[m.1]at this;cases this
 |succ n O=>
  intro l a w u A d z y s m;refine⟨fun h=>(by rw[h]at d;cases d),fun j g=>?_⟩;by_cases f:j=i
  ·rw[f];exact y.wpOp B s ⟨.inr (.inr s),m⟩
  ·have h1:=m.2 j (ready_mono g f);obtain⟨H,p,t,T⟩:=mem_ready.1 g;have N:=gG d g t;have D:=u.ne d g;have J:i≠e:=u.ne d d;have h2:=wpOp_putIf t (A j p t f H N) (fun r b=>G i o r b B) (fun r b=>G j p r b t) I y h1;have C:(l.setIfInBounds i true).getD e true=false:=by rw[getD_set_ne true J];exact z
   refine wpOp_mono (fun b R h3=>⟨.inr ?_,O (l.setIfInBounds j true) b R (u.set d g) (fun k q K L F M=>?_) (ready_mono d (Ne.symm f)) (by rw[getD_set_ne true D];exact z) h3.1 ?_ ?_⟩) h2
   ·exact h3.2.1.resolve_left (by rw[C];decide)
   ·refine A k q K L ?_ M;by_cases E:j=k
    ·rw[<-E];exact H
    ·rw[getD_set_ne true E]at F;exact F
   ·exact(h3.2.1.resolve_left (by rw[C];decide)).resolve_left D
   ·rw[Array.setIfInBounds_comm _ _ f];exact h3.2.2
theorem sU{i:Nat}{o:Oper}{v:Value}(A:ops[i]?=some o)(F:∀(j:Nat)(p:Oper)m b,ops[j]?=some p->p.op≠.select m b)(H:∀c a w,Q (.panic c) (a.put o.dst v) w->Q (.panic c) a w)(B:i≠e):
  ∀(n:Nat)(l:Array Bool)(a:Act)(w:World),(∀j p,ops[j]?=some p->j≠i->l.getD j true=false->(∀x∈p.after,Region.binds md x=true->x.on≠i)->o.apart ops p=true)->i∈Region.ready md ops l->YieldsIf P ops (fun _=>True) o v a->(l.getD e true=true∨S w)->fj P md ops Q S e n (l.setIfInBounds i true) (a.put o.dst v) w->fj P md ops Q S e (n+1) l a w:=by
 intro n
 induction n with
 |zero=>
  intro l a w y f t u g;refine⟨fun h=>(by rw[h]at f;cases f),fun j r=>?_⟩;by_cases d:j=i
  ·rw[d];exact t.wpOp A trivial ⟨u.imp id .inr,g⟩
  ·have:=ready_mono r d;rw[g.1]at this;cases this
 |succ n M=>
  intro l a w y f t u g;refine⟨fun h=>(by rw[h]at f;cases f),fun j r=>?_⟩;by_cases d:j=i
  ·rw[d];exact t.wpOp A trivial ⟨u.imp id .inr,g⟩
  ·have h1:=g.2 j (ready_mono r d);obtain⟨G,p,s,O⟩:=mem_ready.1 r;have L:=gG f r s;have h2:=wpOp_putIf s (y j p s d G L) (fun m b=>F i o m b A) (fun m b=>F j p m b s) H t h1;refine wpOp_mono (fun b N h3=>⟨?_,M (l.setIfInBounds j true) b N (fun k q I J E K=>?_) (ready_mono f (Ne.symm d)) h3.1 ?_ ?_⟩) h2
   ·have:=h3.2.1;rw[getD_set_ne true B]at this;exact this
   ·refine y k q I J ?_ K;by_cases D:j=k
    ·rw[<-D];exact G
    ·rw[getD_set_ne true D]at E;exact E
   ·have:=h3.2.1;rw[getD_set_ne true B]at this;rcases this with z|z|z
    ·left;by_cases C:j=e
     ·rw[C,Array.getD_eq_getD_getElem?];simp[Array.getElem?_setIfInBounds];split<;>simp_all
     ·rw[getD_set_ne true C];exact z
    ·left;rw[z,Array.getD_eq_getD_getElem?];simp[Array.getElem?_setIfInBounds];split<;>simp_all
    ·exact .inr z
   ·rw[Array.setIfInBounds_comm _ _ d];exact h3.2.2
theorem X5{i:Nat}{o:Oper}{v:Value}{n:Nat}{l:Array Bool}{a:Act}{w:World}(b:ops[i]?=some o)(m:Region.noSelect ops=true)(j:Region.free md ops l i=true)(k:(Region.ready md ops l).contains i=true)(p:Ee md ops e i l)(g:l.getD e true=false)
  (d:∀c a w,Q (.panic c) (a.put o.dst v) w->Q (.panic c) a w) (q:YieldsIf P ops S o v a) (f:S w) (h:fj P md ops Q S e n (l.setIfInBounds i true) (a.put o.dst v) w):fj P md ops Q S e (n+1) l a w:=
 vE b (Region.noSelect_spec m) d n l a w p (Region.free_spec b j) (by simpa using k) g q f h
theorem p4{i:Nat}{o:Oper}{v:Value}{n:Nat}{l:Array Bool}{a:Act}{w:World}(b:ops[i]?=some o)(m:Region.noSelect ops=true)(j:Region.free md ops l i=true)(k:(Region.ready md ops l).contains i=true)(g:i≠e)
  (d:∀c a w,Q (.panic c) (a.put o.dst v) w->Q (.panic c) a w) (p:YieldsIf P ops (fun _=>True) o v a) (f:l.getD e true=true∨S w) (h:fj P md ops Q S e n (l.setIfInBounds i true) (a.put o.dst v) w):fj P md ops Q S e (n+1) l a w:=
 sU b (Region.noSelect_spec m) d g n l a w (Region.free_spec b j) (by simpa using k) p f h
def BS(P:Program)(md:Region.Mode)(ops:Array Oper)(Q:Exit->Act->World->Prop)(S:World->Prop)(e:Nat)(n:Nat)(l:Array Bool)(a:Act)(w:World)(rs:List Nat):Prop:=∀i∈rs,wpOp P ops Q i (fun b v=>(l.getD e true=true∨i=e∨S v)∧fj P md ops Q S e n (l.setIfInBounds i true) b v) a w
theorem eG{n:Nat}{l:Array Bool}{a:Act}{w:World}:BS P md ops Q S e n l a w []:=fun _ h=>by cases h
theorem de{n:Nat}{l:Array Bool}{a:Act}{w:World}{i:Nat}{o:Oper}{rs:List Nat}(k:ops[i]?=some o)
  (h:∀b:Act->World->Prop,Shut (∀a w,(l.getD e true=true∨i=e∨S w)->fj P md ops Q S e n (l.setIfInBounds i true) a w->b a w)->if Region.wanted o (yielded ops a.tmps)=true then Oper.wp P o a w b Q else b (a.put o.dst undef) w)
  (m:BS P md ops Q S e n l a w rs):BS P md ops Q S e n l a w (i::rs):=fun j c=>by
 rcases List.mem_cons.1 c with rfl|c
 ·exact wpOp_step k (fun b d=>h b (fun a w f g=>d a w ⟨f,g⟩))
 ·exact m j c
theorem X6{rs:List Nat}{n:Nat}{l:Array Bool}{a:Act}{w:World}(b:Region.ready md ops l=rs)(d:rs≠[])(h:BS P md ops Q S e n l a w rs):fj P md ops Q S e (n+1) l a w:=⟨fun c=>absurd (b▸c) d,b▸h⟩
theorem oe{l:Array Bool}{a:Act}{w:World}(b:Region.ready md ops l=[])(h:Q .normal a w):∀n,fj P md ops Q S e n l a w
 |0=>⟨b,h⟩
 |_+1=>⟨fun _=>h,by rw[b];simp⟩
theorem sV{c:Nat}{a:Act}{w:World}(e:Nat)(S:World->Prop)(b:P.follows .mixedOrders=true)(h:fj P .any ops Q S e ops.size (Array.replicate ops.size false) a w.drew):(Code.region c ops true).wp P Q a w:=wp_region_any b (anyE_any _ _ _ _ h)
end
end Go.Mine.Ac
namespace Go.Mine.Ac
open Go
section
variable {P:Program} {ops:Array Oper} {Q:Exit->Act->World->Prop} {md:Region.Mode} {S:World->Prop} {e:Nat}
theorem AA{a b j:Nat}{l:Array Bool}(h2:gt md ops a b=true)(h3:l.getD b true=false)(f:j∈Region.ready md ops l):j≠a:=fun q=>by
 subst q;obtain⟨-,p,g,e⟩:=mem_ready.1 f;unfold gt at h2;rw[g]at h2;obtain⟨x,hx,d⟩:=Array.any_eq_true'.1 h2;simp only[Bool.and_eq_true,beq_iff_eq]at d;have h4:=e x hx d.1;rw[d.2]at h4;rcases Nat.lt_or_ge b l.size with c|c
 ·simp[c]at h3 h4;rw[h3]at h4;cases h4
 ·simp[Array.getElem?_eq_none c]at h4
def Ef(md:Region.Mode)(ops:Array Oper)(e i:Nat)(l:Array Bool):Prop:=∃k m,gt md ops e k=true∧gt md ops k m=true∧gt md ops m i=true∧l.getD k true=false∧l.getD m true=false
theorem Ef.ne{i j:Nat}{l:Array Bool}(h:Ef md ops e i l)(a:j∈Region.ready md ops l):j≠e:=by obtain⟨k,m,h1,h2,h3,h4,b⟩:=h;exact AA h1 h4 a
theorem Ef.set{i j:Nat}{l:Array Bool}(h:Ef md ops e i l)(c:i∈Region.ready md ops l)(b:j∈Region.ready md ops l):Ef md ops e i (l.setIfInBounds j true):=by obtain⟨k,m,h1,h2,h3,h4,a⟩:=h;exact⟨k,m,h1,h2,h3,by rw[getD_set_ne true (AA h2 a b)];exact h4,by rw[getD_set_ne true (Az h3 c b)];exact a⟩
theorem sW{i:Nat}{o:Oper}{v:Value}(B:ops[i]?=some o)(G:∀(j:Nat)(p:Oper)r b,ops[j]?=some p->p.op≠.select r b)(I:∀c a w,Q (.panic c) (a.put o.dst v) w->Q (.panic c) a w):
  ∀(n:Nat)(l:Array Bool)(a:Act)(w:World),Ef md ops e i l->(∀j p,ops[j]?=some p->j≠i->l.getD j true=false->(∀x∈p.after,Region.binds md x=true->x.on≠i)->o.apart ops p=true)->i∈Region.ready md ops l->l.getD e true=false->YieldsIf P ops S o v a->S w->fj P md ops Q S e n (l.setIfInBounds i true) (a.put o.dst v) w->fj P md ops Q S e (n+1) l a w:=by
 intro n
 induction n with
 |zero=>
  intro l a w u A d z y s m;refine⟨fun h=>(by rw[h]at d;cases d),fun j g=>?_⟩;by_cases f:j=i
  ·rw[f];exact y.wpOp B s ⟨.inr (.inr s),m⟩
  ·have:=ready_mono g f;rw[m.1]at this;cases this
 |succ n O=>
  intro l a w u A d z y s m;refine⟨fun h=>(by rw[h]at d;cases d),fun j g=>?_⟩;by_cases f:j=i
  ·rw[f];exact y.wpOp B s ⟨.inr (.inr s),m⟩
  ·have h1:=m.2 j (ready_mono g f);obtain⟨H,p,t,T⟩:=mem_ready.1 g;have N:=gG d g t;have D:=u.ne g;have J:i≠e:=u.ne d;have h2:=wpOp_putIf t (A j p t f H N) (fun r b=>G i o r b B) (fun r b=>G j p r b t) I y h1;have C:(l.setIfInBounds i true).getD e true=false:=by rw[getD_set_ne true J];exact z
   refine wpOp_mono (fun b R h3=>⟨.inr ?_,O (l.setIfInBounds j true) b R (u.set d g) (fun k q K L F M=>?_) (ready_mono d (Ne.symm f)) (by rw[getD_set_ne true D];exact z) h3.1 ?_ ?_⟩) h2
   ·exact h3.2.1.resolve_left (by rw[C];decide)
   ·refine A k q K L ?_ M;by_cases E:j=k
    ·rw[<-E];exact H
    ·rw[getD_set_ne true E]at F;exact F
   ·exact(h3.2.1.resolve_left (by rw[C];decide)).resolve_left D
   ·rw[Array.setIfInBounds_comm _ _ f];exact h3.2.2
theorem vF{i:Nat}{o:Oper}{v:Value}{n:Nat}{l:Array Bool}{a:Act}{w:World}(b:ops[i]?=some o)(m:Region.noSelect ops=true)(j:Region.free md ops l i=true)(k:(Region.ready md ops l).contains i=true)(p:Ef md ops e i l)(g:l.getD e true=false)
  (d:∀c a w,Q (.panic c) (a.put o.dst v) w->Q (.panic c) a w) (q:YieldsIf P ops S o v a) (f:S w) (h:fj P md ops Q S e n (l.setIfInBounds i true) (a.put o.dst v) w):fj P md ops Q S e (n+1) l a w:=
 sW b (Region.noSelect_spec m) d n l a w p (Region.free_spec b j) (by simpa using k) g q f h
end
end Go.Mine.Ac
