/- Packed. -/
import Derived.Test.YtofcogekgcgjhaaGreatDoorZzaz
import Derived.Test.YtofcogekgcgjhaaGreatDoorZzah
set_option maxRecDepth 100000
set_option maxHeartbeats 8000000
namespace Go.Proofs.YtofcogekgcgjhaaGreatDoor
open Go.RowKit Go.Mine Go.Mine.Ac Go.Proofs.Tryz
structure B9 (s:St):Prop where
 trees:s.trees.length<=65536
 commits:s.commits.length<=65536
 tree:∀t∈s.trees,fR t∧∀x∈t,x.2<4294967296
 commit:∀(n:Nat)(c:Cm),s.commits[n]?=some c->c.par.length<=16∧lF n c.par∧0<=c.tree∧c.tree<s.trees.length
theorem noSt_good:B9 noSt:=⟨by simp[noSt],by simp[noSt],by simp[noSt],by simp[noSt]⟩
theorem checkP_in:∀(l seen:List Int),checkP seen l=0->∀(i:Nat)(p:Int),l[i]?=some p->kP p∧p ∉ seen∧p ∉ l.take i
 | [],_,_,i,p,hp=>by simp at hp
 |q::l,seen,h,i,p,hp=>by
  rw[checkP]at h;split at h
  ·simp at h
  rename_i h1;split at h
  ·simp at h
  rename_i h2;cases i with
  |zero=>simp only[List.getElem?_cons_zero,Option.some.injEq]at hp;subst hp;exact⟨Classical.not_not.1 h1,h2,by simp⟩
  |succ i=>obtain⟨a,b,c⟩:=checkP_in l _ h i p (by simpa using hp);rw[List.mem_append,List.mem_singleton,not_or]at b;refine⟨a,b.1,?_⟩;rw[List.take_succ_cons,List.mem_cons,not_or];exact⟨b.2,c⟩
theorem sh{s:St}{c:Cm}(h:D8 c=0)(d:F9 s c=true):c.par.length<=16∧lF s.commits.length c.par∧0<=c.tree∧c.tree<s.trees.length:=by
 unfold D8 at h;split at h
 ·simp at h
 rename_i h1;split at h
 ·simp at h
 rename_i h2;unfold F9 at d;rw[Bool.and_eq_true,decide_eq_true_eq,List.all_eq_true]at d;have h3:kP c.tree:=Classical.not_not.1 h2;refine⟨by omega,fun i p e=>?_,h3.1,d.1⟩;obtain⟨a,-,b⟩:=checkP_in c.par [] h i p e;have:=d.2 p (LI e);exact⟨a.1,by simpa using this,b⟩
theorem B9.addTree{s:St}{d:Dk}{t:List Ent}(h:B9 s)(w:∀x∈t,x.2<4294967296):B9 (addTree d s t).2.1:=by
 by_cases e:s.dead=true
 ·rw[eW e];exact h
 replace e:s.dead=false:=by simpa using e
 cases g:O9 t with
 |error k=>rw[Z0 e g];exact h
 |ok b=>
  by_cases i:65536<=s.trees.length
  ·rw[eX e g i];exact h
  obtain⟨D1,p,k,j⟩:∃D1 p k,writeS d s 1 b=(D1,p,k):=⟨_,_,_,rfl⟩;obtain⟨a,f⟩:=O6 d s 1 b;rw[j]at a f;simp only at a f;by_cases m:k=0
  ·subst m;rw[O5 e g i j];refine⟨?_,?_,?_,?_⟩
   ·simp only[List.length_append,a,List.length_cons,List.length_nil];omega
   ·simp only[f];exact h.commits
   ·intro y o;simp only[a]at o;rcases List.mem_append.1 o with q|q
    ·exact h.tree y q
    ·rw[List.mem_singleton]at q;subst q;exact⟨(wz g).1,w⟩
   ·intro n c l;simp only[f]at l;obtain⟨r,u,v,z⟩:=h.commit n c l;refine⟨r,u,v,?_⟩;simp only[List.length_append,a,List.length_cons,List.length_nil];omega
  ·rw[gh e g i j m];exact⟨by simp only[a];exact h.trees,by simp only[f];exact h.commits,by simp only[a];exact h.tree,by simp only[a,f];exact h.commit⟩
theorem B9.addCommit{s:St}{d:Dk}{c:Cm}(h:B9 s):B9 (addCommit d s c).2.1:=by
 by_cases e:s.dead=true
 ·rw[dt e];exact h
 replace e:s.dead=false:=by simpa using e
 cases i:U0 c with
 |error k=>rw[R0 e i];exact h
 |ok b=>
  by_cases f:F9 s c=false
  ·rw[R4 e i f];exact h
  replace f:F9 s c=true:=by simpa using f
  by_cases j:65536<=s.commits.length
  ·rw[du e i f j];exact h
  obtain⟨D1,o,k,l⟩:∃D1 o k,writeS d s 2 b=(D1,o,k):=⟨_,_,_,rfl⟩;obtain⟨a,g⟩:=O6 d s 2 b;rw[l]at a g;simp only at a g;by_cases m:k=0
  ·subst m;rw[H4 e i f j l];refine⟨by simp only[a];exact h.trees,?_,by simp only[a];exact h.tree,?_⟩
   ·simp only[List.length_append,g,List.length_cons,List.length_nil];omega
   ·intro n x hx;simp only[a,g]at hx ⊢;rw[List.getElem?_append]at hx;split at hx
    ·exact h.commit n x hx
    ·rename_i q;have h1:n=s.commits.length:=by have:=(LA.1 hx).1;simp only[List.length_cons,List.length_nil]at this;omega
     subst h1;simp only[Nat.sub_self,List.getElem?_cons_zero,Option.some.injEq]at hx;subst hx;exact sh (wE i).1 f
  ·rw[ef e i f j l m];exact⟨by simp only[a];exact h.trees,by simp only[g];exact h.commits,by simp only[a];exact h.tree,by simp only[a,g];exact h.commit⟩
def chainT:ByteArray:=⟨#[99,104,97,105,110,46,116,109,112]⟩
def graphT:ByteArray:=⟨#[103,114,97,112,104,46,116,109,112]⟩
def W6(g:Gr):I2:=⟨g.h,g.p,g.m,g.seed⟩
def fu(r:Rw):AY:=⟨r.state,r.bits⟩
def M4(s:St)(c:Cm):List Ent:=match c.par with| []=>[]|p::_=>o7 s p
def fw(all:List Int)(c:Cm):Int:=X0 (c.par.map fun p=>all.getD p.toNat 0)
def J8(s:St)(g:I2)(n:Nat)(gen:Int):Rw:=⟨(A8 s n).1.par,(A8 s n).1.tree,gen,(tE g (M4 s (A8 s n).1) (o7 s n)).state,(tE g (M4 s (A8 s n).1) (o7 s n)).bits⟩
def E4(s:St)(g:I2):Nat->List Int->List Rw
 |0,_=>[]
 |k+1,known=>J8 s g known.length (fw known (A8 s known.length).1)::E4 s g k (known++[fw known (A8 s known.length).1])
def dx(x:Ix):List Int:=x.graphs.flatMap fun g=>g.rows.map (·.gen)
theorem M0(s:St)(g:I2):∀(k:Nat)(known:List Int),(E4 s g k known).length=k
 |0,_=>rfl
 |k+1,known=>by rw[E4,List.length_cons,M0 s g k]
theorem Ae{s:I2}(c:n0 s){k:Nat}(g:k<=s.m.toNat):1<=ep s k∧ep s k<=4096:=by
 obtain⟨h1,h2,h3,h4,e,f⟩:=c;unfold ep;have a:s.p.toNat<=64:=by omega
 have b:k<=512:=by omega
 have d:k*s.p.toNat<=512*64:=Nat.mul_le_mul b a;omega
theorem goodF_large:fq 2 ⟨#[]⟩=true:=by decide
theorem si{b:ByteArray}(h:1<=b.size∧b.size<=4096):fq 1 b=true:=by unfold fq;rw[if_neg (by decide),if_pos rfl];simpa using h
theorem uS{s:I2}(b:n0 s)(l:List ByteArray):fq (H3 s l).state (H3 s l).bits=true:=by
 by_cases h:s.m.toNat<(once l).length
 ·rw[Y3 h];exact goodF_large
 ·rw[Y7 h];refine si ?_;have h1:=Ae b (k:=(once l).length) (by omega);have h2:∀(a:List UInt8),(⟨a.toArray⟩:ByteArray).size=a.length:=fun a=>by simp[ByteArray.size]
  rw[h2,dp];exact h1
theorem kx(s:I2)(l:List ByteArray):(H3 s l).state=1∨(H3 s l).state=2:=by
 by_cases h:s.m.toNat<(once l).length
 ·rw[Y3 h];exact .inr rfl
 ·rw[Y7 h];exact .inl rfl
theorem dy{n:Int}{b:ByteArray}(h:fq n b=true):b.size<=4096:=by
 unfold fq at h;split at h
 ·have:=of_decide_eq_true h;omega
 ·split at h
  ·have:=of_decide_eq_true h;omega
  ·simp at h
def fx(l:List Int):Prop:=∀x∈l,1<=x∧x<=1023
theorem sj{n:Int}(h:n<=1023):counted n<=1023:=by unfold counted;rw[if_neg (by omega)];omega
theorem yh{l:List Int}(h:∀x∈l,x<=1023):1<=X0 l∧X0 l<=1023:=by
 have h1:∀(l:List Int)(a:Int),(∀x∈l,x<=1023)->0<=a->a<=1023->0<=l.foldl (fun h p=>max h (counted p)) a∧l.foldl (fun h p=>max h (counted p)) a<=1023:=by
  intro l
  induction l with|nil=>intro a _ h1 h2;exact⟨h1,h2⟩|cons y l c=>intro a b h1 h2;rw[List.foldl_cons];have:=sj (b y (List.mem_cons_self ..));exact c _ (fun x hx=>b x (LP _ hx)) (by omega) (by omega)
 have:=h1 l 0 h (by omega) (by omega);unfold X0;simp only[];split<;>omega
theorem iY{all:List Int}(h:fx all)(c:Cm):1<=fw all c∧fw all c<=1023:=by
 refine yh fun x hx=>?_
 obtain⟨p,-,rfl⟩:=List.mem_map.1 hx;rw[List.getD_eq_getElem?_getD];cases a:all[p.toNat]?with
 |none=>simp
 |some y=>exact(h y (LI a)).2
theorem Z1{s:St}{n:Nat}(h:n<s.commits.length):∃c,s.commits[n]?=some c∧(A8 s n).1=c:=by refine⟨_,LB h,?_⟩;rw[eT (List.getElem?_eq_getElem h)]
theorem eY{s:St}(a:B9 s){g:I2}(f:n0 g){n:Nat}(i:n<s.commits.length){gen:Int}(h:1<=gen∧gen<=1023):ft (J8 s g n gen) n:=by obtain⟨c,h1,h2⟩:=Z1 i;obtain⟨b,d,e,j⟩:=a.commit n c h1;have:=a.trees;unfold J8;rw[h2];exact⟨b,e,by simp only;omega,h.1,h.2,d,uS f _⟩
theorem io{s:St}(c:B9 s){g:I2}(a:n0 g):∀(k:Nat)(known:List Int),fx known->known.length+k<=s.commits.length->∀(i:Nat)(r:Rw),(E4 s g k known)[i]?=some r->ft r ((known.length+i:Nat):Int)
 |0,known,_,_,i,r,hr=>by simp[E4]at hr
 |k+1,known,hk,hl,i,r,hr=>by
  rw[E4]at hr;have b:=iY hk (A8 s known.length).1;cases i with
  |zero=>simp only[List.getElem?_cons_zero,Option.some.injEq]at hr;subst hr;exact eY c a (by omega) b
  |succ i=>
   have:=io c a k (known++[fw known (A8 s known.length).1]) (fun x hx=>by
    rcases List.mem_append.1 hx with q|q
    ·exact hk x q
    ·rw[List.mem_singleton]at q;subst q;exact b) (by simp;omega) i r (by simpa using hr)
   have e:((known++[fw known (A8 s known.length).1]).length+i:Nat)=known.length+(i+1):=by simp;omega
   rw[e]at this;exact this
theorem Af{x:Ix}(h:G0 x):fx (dx x):=fun z a=>by obtain⟨g,c,a⟩:=List.mem_flatMap.1 a;obtain⟨r,f,rfl⟩:=List.mem_map.1 a;obtain⟨i,d⟩:=LM c;obtain⟨j,e⟩:=LM f;obtain⟨_,_,_,h4,b,_⟩:=(h.graph i g d).1.2.2 j r e;exact⟨h4,b⟩
theorem eg(l:List Ch.Ln)(i:Nat)(y:Ch.Ln)(h:l[i]?=some y):Ch.totLn (l.take (i+1))=Ch.totLn (l.take i)+y.2.1:=by rw[List.take_add_one,h,Ch.cQ];simp[Ch.totLn]
theorem ip{x:Ix}(h:G0 x):∀i,i<=x.links.length->(((x.graphs.take i).flatMap fun g=>g.rows.map (·.gen)).length:Int)=Ch.totLn (x.links.take i)
 |0,_=>by simp[Ch.totLn]
 |i+1,hi=>by
  have b:i<x.graphs.length:=by rw[h.both];omega
  have e:=LB b;obtain⟨-,-,l,c,a⟩:=h.graph i _ e;have d:=ip h i (by omega);rw[eg _ _ _ c,List.take_add_one,e,List.flatMap_append,List.length_append]
  push_cast
  rw[d,a];simp
theorem yi{x:Ix}(h:G0 x):((dx x).length:Int)=x.len:=by have:=ip h x.links.length (LS _);rw[List.take_of_length_le (by rw[h.both];exact LS _),LQ (LS _)]at this;exact this
def R7(d:Dk)(n:Nat):Prop:=d.pend.length<=n∧d.files.length<=n
theorem R7.mono{d:Dk}{n m:Nat}(h:R7 d n)(a:n<=m):R7 d m:=⟨LR h.1 a,LR h.2 a⟩
theorem R7.then {d:Dk} {n m:Nat} {f:Dk->Dk} (h:R7 d n) (b:n<=m) (a:∀k,R7 {d with falls:=k} n->R7 (f {d with falls:=k}) m):R7 (d.then f).1 m:=by
 by_cases h1:d.falls=1
 ·rw[Dk.then_dies h1];exact h.mono b
 ·rw[Dk.then_goes h1];exact a _ h
theorem R7.create{d:Dk}{n:Nat}(h:R7 d n)(name:ByteArray):R7 (d.create name).1 (n+1):=by
 unfold Dk.create;split
 ·exact h.mono (Nat.le_succ _)
 split
 ·exact h.mono (Nat.le_succ _)
 split
 ·exact h.mono (Nat.le_succ _)
 refine h.then (Nat.le_succ _) fun k q=>?_
 have h1:=h.1;have h2:=h.2;constructor
 ·simp only[Dk.change,List.length_append,List.length_cons,List.length_nil];omega
 ·simp only[Dk.change,List.length_append,List.length_cons,List.length_nil];omega
theorem R7.append{d:Dk}{n:Nat}(h:R7 d n)(name a:ByteArray):R7 (d.append name a).1 n:=by
 unfold Dk.append;split
 ·exact h
 split
 ·exact h
 exact h.then (LS _) fun k q=>⟨q.1,by simp only[Dk.setF,List.length_set];exact q.2⟩
theorem R7.sync{d:Dk}{n:Nat}(h:R7 d n)(name:ByteArray):R7 (d.sync name).1 n:=by
 unfold Dk.sync;split
 ·exact h
 exact h.then (LS _) fun k q=>⟨q.1,by simp only[Dk.setF,List.length_set];exact q.2⟩
theorem R7.syncNames{d:Dk}{n:Nat}(h:R7 d n):R7 d.syncNames.1 n:=by
 unfold Dk.syncNames;split
 ·exact h
 exact h.then (LS _) fun k q=>⟨Nat.zero_le _,q.2⟩
theorem R7.rename{d:Dk}{n:Nat}(h:R7 d n)(a b:ByteArray):R7 (d.rename a b).1 (n+1):=by
 unfold Dk.rename;split
 ·exact h.mono (Nat.le_succ _)
 split
 ·exact h.mono (Nat.le_succ _)
 refine h.then (Nat.le_succ _) fun k q=>?_
 have h1:=h.1;have h2:=h.2;split
 ·exact q.mono (Nat.le_succ _)
 ·constructor
  ·simp only[Dk.change,List.length_append,List.length_cons,List.length_nil];omega
  ·simp only[Dk.change];omega
theorem R7.remove{d:Dk}{n:Nat}(h:R7 d n)(a:ByteArray):R7 (d.remove a).1 (n+1):=by
 unfold Dk.remove;split
 ·exact h.mono (Nat.le_succ _)
 refine h.then (Nat.le_succ _) fun k q=>?_
 have h1:=h.1;have h2:=h.2;constructor
 ·simp only[Dk.change,List.length_append,List.length_cons,List.length_nil];omega
 ·simp only[Dk.change];omega
theorem gE{d:Dk}(h:d.Ok)(s:St)(k:Nat)(b:ByteArray):(writeS d s k b).1.Ok:=by
 obtain⟨D1,k1,h1⟩:∃D1 k1,d.append logB (E8 ⟨k,b⟩)=(D1,k1):=⟨_,_,rfl⟩;have f1:=h.appendOk logB (E8 ⟨k,b⟩);rw[h1]at f1;by_cases q:k1=0
 ·subst q;rw[dQ h1 rfl];exact f1.syncOk _
 ·rw[gf h1 q];exact f1
theorem iZ{P:Dk->Prop}{d:Dk}(s:St)(t:List Ent)(h:P d)(c:∀b,P (writeS d s 1 b).1):P (addTree d s t).1:=by
 by_cases a:s.dead=true
 ·rw[eW a];exact h
 replace a:s.dead=false:=by simpa using a
 cases e:O9 t with
 |error k=>rw[Z0 a e];exact h
 |ok b=>
  by_cases f:65536<=s.trees.length
  ·rw[eX a e f];exact h
  have:=c b;obtain⟨D1,i,k,c⟩:∃D1 i k,Ac.writeS d s 1 b=(D1,i,k):=⟨_,_,_,rfl⟩;rw[c]at this;by_cases g:k=0
  ·subst g;rw[O5 a e f c];exact this
  ·rw[gh a e f c g];exact this
theorem gm{P:Dk->Prop}{d:Dk}(s:St)(c:Cm)(h:P d)(g:∀b,P (writeS d s 2 b).1):P (addCommit d s c).1:=by
 by_cases a:s.dead=true
 ·rw[dt a];exact h
 replace a:s.dead=false:=by simpa using a
 cases f:U0 c with
 |error k=>rw[R0 a f];exact h
 |ok b=>
  by_cases e:F9 s c=false
  ·rw[R4 a f e];exact h
  replace e:F9 s c=true:=by simpa using e
  by_cases i:65536<=s.commits.length
  ·rw[du a f e i];exact h
  have:=g b;obtain⟨D1,l,k,g⟩:∃D1 l k,Ac.writeS d s 2 b=(D1,l,k):=⟨_,_,_,rfl⟩;rw[g]at this;by_cases j:k=0
  ·subst j;rw[H4 a f e i g];exact this
  ·rw[ef a f e i g j];exact this
noncomputable def K9(g:Gr):ByteArray×Nat:=if jZ g=0 then if 4194304<(n9 g.rows).B.length then(emp,5)else if t7 (H6 g)=0 then(er (H6 g),0)else(emp,t7 (H6 g))else(emp,1)
theorem jd{g:Gr}(h:(K9 g).2=0):Y2 g∧¬4194304<(n9 g.rows).B.length:=by
 unfold K9 at h;by_cases a:Y2 g
 ·rw[if_pos (jw a)]at h;refine⟨a,fun q=>?_⟩;rw[if_pos q]at h;exact absurd h (by decide)
 ·rw[if_neg (by rw[zE a];decide)]at h;exact absurd h (by decide)
theorem pu(g:Gr):iV g=.tuple #[.string (K9 g).1,.int .i64 ((K9 g).2:Nat)]:=by
 unfold iV K9 s7;split
 ·split
  ·rfl
  ·split<;>rfl
 ·rfl
def L4(l:List Ch.Ln):ByteArray×Nat:=if Ch.G1 l=0 then(Ch.X4 l,0)else(emp,Ch.G1 l)
theorem wG(l:List Ch.Ln):Ch.dE l=.tuple #[.string (L4 l).1,.int .i64 ((L4 l).2:Nat)]:=by unfold Ch.dE L4;split<;>rfl
theorem wH{l:List Ch.Ln}(h:(L4 l).2=0):Ch.G1 l=0:=by
 unfold L4 at h;split at h
 ·assumption
 ·exact h
def D3(d:Dk)(tmp b name:ByteArray):Dk×Nat:=
 match d.create tmp with
 |(d1,0)=>match d1.append tmp b with
  |(d2,0)=>match d2.sync tmp with
   |(a,0)=>a.rename tmp name
   |r=>r
  |r=>r
 |r=>r
theorem cZ{P:Nat->Dk->Prop}(e:∀n d,P n d->P (n+1) d)(h1:∀n d s,P n d->P (n+1) (d.create s).1)(h2:∀n d s t,P n d->P n (d.append s t).1)(h3:∀n d s,P n d->P n (d.sync s).1)(h4:∀n d s t,P n d->P (n+1) (d.rename s t).1)
  {n:Nat} {d:Dk} (h:P n d) (tmp f name:ByteArray):P (n+2) (D3 d tmp f name).1:=by
 unfold D3;have a:=h1 n d tmp h;split
 ·rename_i d1 i;rw[i]at a;have b:=h2 _ d1 tmp f a;split
  ·rename_i d2 j;rw[j]at b;have c:=h3 _ d2 tmp b;split
   ·rename_i g k;rw[k]at c;exact h4 _ g tmp name c
   ·exact e _ _ c
  ·exact e _ _ b
 ·exact e _ _ a
def F7(links:List Ch.Ln):List ByteArray->Dk->Dk
 | [],d=>d
 |name::l,d=>F7 links l (if(Ch.H7 name).2=true∧Ch.H2 links (Ch.H7 name).1=false then(d.remove name).1 else d)
theorem eZ{P:Nat->Dk->Prop}(a:∀n d,P n d->P (n+1) d)(h1:∀n d s,P n d->P (n+1) (d.remove s).1)(links:List Ch.Ln):∀(l:List ByteArray)(n:Nat)(d:Dk),P n d->P (n+l.length) (F7 links l d)
 | [],n,d,h=>h
 |name::l,n,d,h=>by
  rw[F7,List.length_cons];have e:n+(l.length+1)=(n+1)+l.length:=by omega
  rw[e];refine eZ a h1 links l (n+1) _ ?_;split
  ·exact h1 n d name h
  ·exact a n d h
def L5(d:Dk)(n:Int)(b a:ByteArray):Dk×Nat:=
 match D3 d graphT b (Ch.nameS n)with
 |(d1,0)=>match D3 d1 chainT a chainB with
  |(d2,0)=>d2.syncNames
  |r=>r
 |r=>r
theorem nh{P:Nat->Dk->Prop}(a:∀n d,P n d->P (n+1) d)(h1:∀n d s,P n d->P (n+1) (d.create s).1)(h2:∀n d s t,P n d->P n (d.append s t).1)(h3:∀n d s,P n d->P n (d.sync s).1)(h4:∀n d s t,P n d->P (n+1) (d.rename s t).1)(j:∀n d,P n d->P n d.syncNames.1)
  {n:Nat} {d:Dk} (h:P n d) (k:Int) (f e:ByteArray):P (n+4) (L5 d k f e).1:=by
 unfold L5;have b:=cZ a h1 h2 h3 h4 h graphT f (Ch.nameS k);split
 ·rename_i d1 g;rw[g]at b;have c:=cZ a h1 h2 h3 h4 b chainT e chainB;split
  ·rename_i d2 i;rw[i]at c;exact j _ _ c
  ·exact c
 ·exact a _ _ (a _ _ b)
def Ag(d:Dk)(n:Int):Dk:=(((d.remove graphT).1.remove chainT).1.remove (Ch.nameS n)).1
noncomputable def r7(x:Ix)(links:List Ch.Ln)(g:Gr):List Ch.Ln:=links++[(Ch.iy x.links,(g.rows.length:Int),Crc.sum (p6 (K9 g).1))]
noncomputable def dG(d:Dk)(x:Ix)(links:List Ch.Ln)(graphs:List Gr)(g:Gr):Dk×Ix×Nat:=
 if(K9 g).2≠0 then(d,x,(K9 g).2)
 else if(L4 (r7 x links g)).2≠0 then(d,x,(L4 (r7 x links g)).2)
 else match L5 d (Ch.iy x.links) (K9 g).1 (L4 (r7 x links g)).1 with
  |(d1,0)=>(F7 (r7 x links g) d1.names d1,⟨r7 x links g,graphs++[g]⟩,0)
  |(d1,e)=>(Ag d1 (Ch.iy x.links),x,e)
def D9(s:St)(g:I2)(base:Int)(known:List Int):Gr:=⟨base,g.h,g.p,g.m,g.seed,E4 s g (s.commits.length-known.length) known⟩
noncomputable def Z2(d:Dk)(x:Ix)(s:St)(g:I2):Dk×Ix×Nat:=
 if H9 x s g≠0 then(d,x,H9 x s g)
 else if s.commits.length=0 then(d,x,0)
 else dG d x [] [] (D9 s g 0 [])
noncomputable def D6(d:Dk)(x:Ix)(s:St)(g:I2):Dk×Ix×Nat:=
 if H9 x s g≠0 then(d,x,H9 x s g)
 else if(s.commits.length:Int)=x.len then(d,x,0)
 else if 8<=x.links.length then Z2 d x s g
 else dG d x x.links x.graphs (D9 s g x.len (dx x))
theorem sk(s:ByteArray):∀l,(gZ s l).length=l.length+1
 | []=>rfl
 |x::l=>by
  rw[gZ];split
  ·rfl
  ·rw[List.length_cons,sk s l,List.length_cons]
theorem yj(l:List ByteArray):(Q4 l).length=l.length:=by
 induction l with|nil=>rfl|cons x l a=>have:Q4 (x::l)=gZ x (Q4 l):=rfl;rw[this,sk,a,List.length_cons]
theorem nW{d:Dk}(h:d.Ok):d.names.length<=64:=by
 unfold Dk.names;split
 ·simp
 ·rw[yj,List.length_map];exact h.seenOk.many
theorem sn{P:Nat->Dk->Prop}(h1:∀n d s,P n d->P (n+1) (d.remove s).1){n:Nat}{d:Dk}(h:P n d)(k:Int):P (n+3) (Ag d k):=h1 _ _ _ (h1 _ _ _ (h1 _ _ _ h))
theorem uT{P:Nat->Dk->Prop}(c:∀n d,P n d->P (n+1) d)(h1:∀n d s,P n d->P (n+1) (d.create s).1)(h2:∀n d s t,P n d->P n (d.append s t).1)(h3:∀n d s,P n d->P n (d.sync s).1)(h4:∀n d s t,P n d->P (n+1) (d.rename s t).1)(o:∀n d,P n d->P n d.syncNames.1)(j:∀n d s,P n d->P (n+1) (d.remove s).1)
  (p:∀n d,P n d->d.names.length<=64) {n:Nat} {d:Dk} (h:P n d) (x:Ix) (links:List Ch.Ln) (graphs:List Gr) (g:Gr):P (n+68) (dG d x links graphs g).1:=by
 have b:∀k n d,P n d->P (n+k) d:=by
  intro k
  induction k with|zero=>intro n d h;exact h|succ k q=>intro n d h;exact c _ _ (q n d h)
 unfold dG;split
 ·exact b 68 _ _ h
 split
 ·exact b 68 _ _ h
 have a:=nh c h1 h2 h3 h4 o h (Ch.iy x.links) (K9 g).1 (L4 (r7 x links g)).1;split
 ·rename_i d1 i;rw[i]at a;have l:=eZ c j (r7 x links g) d1.names _ _ a;have r:d1.names.length<=64:=p _ _ a;have f:=b (64-d1.names.length) _ _ l;have e:n+4+d1.names.length+(64-d1.names.length)=n+68:=by omega
  rw[e]at f;exact f
 ·rename_i d1 i u m;rw[m]at a;exact b 61 _ _ (sn j a _)
theorem so{n:Nat}{d:Dk}(h:R7 d n)(a:d.Ok)(x:Ix)(links:List Ch.Ln)(graphs:List Gr)(g:Gr):R7 (dG d x links graphs g).1 (n+68)∧(dG d x links graphs g).1.Ok:=
 uT (P:=fun n d=>R7 d n∧d.Ok) (fun n d q=>⟨q.1.mono (Nat.le_succ _),q.2⟩) (fun n d s q=>⟨q.1.create s,q.2.createOk s⟩) (fun n d s t q=>⟨q.1.append s t,q.2.appendOk s t⟩) (fun n d s q=>⟨q.1.sync s,q.2.syncOk s⟩)
  (fun n d s t q=>⟨q.1.rename s t,q.2.renameOk s t⟩) (fun n d q=>⟨q.1.syncNames,q.2.syncNamesOk⟩) (fun n d s q=>⟨q.1.remove s,q.2.removeOk s⟩) (fun n d q=>nW q.2) ⟨h,a⟩ x links graphs g
theorem sp{n:Nat}{d:Dk}(h:R7 d n)(c:d.Ok)(x:Ix)(s:St)(g:I2):R7 (D6 d x s g).1 (n+68)∧(D6 d x s g).1.Ok∧R7 (Z2 d x s g).1 (n+68)∧(Z2 d x s g).1.Ok:=by
 have a:R7 d (n+68)∧d.Ok:=⟨h.mono (Nat.le_add_right _ _),c⟩;have b:R7 (Z2 d x s g).1 (n+68)∧(Z2 d x s g).1.Ok:=by
  unfold Z2;split
  ·exact a
  split
  ·exact a
  exact so h c _ _ _ _
 have e:R7 (D6 d x s g).1 (n+68)∧(D6 d x s g).1.Ok:=by
  unfold D6;split
  ·exact a
  split
  ·exact a
  split
  ·exact b
  exact so h c _ _ _ _
 exact⟨e.1,e.2,b.1,b.2⟩
theorem wI{d:Dk}{x:Ix}{links:List Ch.Ln}{graphs:List Gr}{g:Gr}(hx:G0 x)(t:∀l∈links,l.2.2<4294967296)(j:graphs.length=links.length)
  (p:∀(i:Nat)(h:Gr),graphs[i]?=some h->Y2 h∧h.base=Ch.totLn (links.take i)∧∃l,links[i]?=some l∧l.2.1=h.rows.length) (o:g.base=Ch.totLn links):G0 (dG d x links graphs g).2.1:=by
 unfold dG;split
 ·exact hx
 rename_i h1;split
 ·exact hx
 rename_i h2;have n:=(jd (Classical.not_not.1 h1)).1;have k:=Ch.fU _ (wH (Classical.not_not.1 h2));split
 ·refine⟨k.1,by simp[r7,j],fun l m=>?_,fun i h f=>?_⟩
  ·obtain⟨a,b,c,e⟩:=k.2.2 l m;refine⟨a,b,c,e,?_⟩;rcases List.mem_append.1 m with q|q
   ·exact t l q
   ·rw[List.mem_singleton]at q;subst q;exact O0 _
  ·simp only at f ⊢;unfold r7;rw[List.getElem?_append]at f;split at f
   ·rename_i q;obtain⟨a,b,l,c,e⟩:=p i h f;have r:i<links.length:=by omega
    exact⟨a,by rw[b,List.take_append_of_le_length (by omega)],l,by rw[List.getElem?_append_left r];exact c,e⟩
   ·rename_i q;have s:i=graphs.length:=by have:=(LA.1 f).1;simp only[List.length_cons,List.length_nil]at this;omega
    subst s;simp only[Nat.sub_self,List.getElem?_cons_zero,Option.some.injEq]at f;subst f;exact⟨n,by rw[j,List.take_append_of_le_length (Nat.le_refl _),List.take_length];exact o,_,by rw[j,List.getElem?_append_right (Nat.le_refl _),Nat.sub_self];rfl,rfl⟩
 ·exact hx
theorem sq{d:Dk}{x:Ix}(hx:G0 x)(s:St)(g:I2):G0 (Z2 d x s g).2.1:=by
 unfold Z2;split
 ·exact hx
 split
 ·exact hx
 exact wI hx (fun l h=>by simp at h) rfl (fun i a h=>by simp at h) rfl
theorem uU{d:Dk}{x:Ix}(hx:G0 x)(s:St)(g:I2):G0 (D6 d x s g).2.1:=by
 unfold D6;split
 ·exact hx
 split
 ·exact hx
 split
 ·exact sq hx s g
 exact wI hx (fun l h=>(hx.link l h).2.2.2.2) hx.both hx.graph rfl
theorem noIx_ok:G0 noIx:=⟨by simp[noIx],rfl,fun l h=>by simp[noIx]at h,fun i g h=>by simp[noIx]at h⟩
def E9(x:Ix)(n:Int):Option (Gr×Rw):=if n<0 then none else(x.graphs.find? fun g=>decide (n<g.base+g.rows.length)).bind fun g=>(g.rows[(n-g.base).toNat]?).map fun r=>(g,r)
def gJ(x:Ix)(n:Int)(path:ByteArray):Bool:=match E9 x n with|none=>true|some (g,r)=>U6 (W6 g) (fu r) path
def I9(x:Ix):List Int:=x.graphs.map fun g=>(g.rows.length:Int)
theorem ss{x:Ix}(h:G0 x){a b:Nat}(d:a<=b):Ch.totLn (x.links.take a)<=Ch.totLn (x.links.take b):=by
  induction b with
  |zero=>rw[show a=0 by omega];exact Int.le_refl _
  |succ b e=>
    rcases Nat.lt_or_eq_of_le d with q|q
    ·have h1:=e (by omega);cases c:x.links[b]?with
     |none=>rw[List.take_add_one,c];simpa using h1
     |some y=>rw[eg _ _ _ c];have:=(h.link y (LI c)).2.2.1;omega
    ·rw[q];exact Int.le_refl _
theorem R5{x:Ix}(h:G0 x){i:Nat}{g:Gr}(a:x.graphs[i]?=some g):g.base+g.rows.length=Ch.totLn (x.links.take (i+1))∧g.base=Ch.totLn (x.links.take i):=by obtain⟨-,h1,l,h2,h3⟩:=h.graph i g a;exact⟨by rw[eg _ _ _ h2,h1,h3],h1⟩
theorem eF{x:Ix}(h:G0 x):x.len=Ch.totLn (x.links.take x.graphs.length):=by unfold Ix.len;rw[h.both,List.take_length]
theorem mo{x:Ix}(h:G0 x){n:Int}(d:n<0∨x.len<=n):E9 x n=none:=by
  unfold E9;split
  ·rfl
  ·rename_i c;have:(x.graphs.find? fun g=>decide (n<g.base+g.rows.length))=none:=by rw[List.find?_eq_none];intro g b;obtain⟨i,a⟩:=LM b;have h1:=(R5 h a).1;have h2:=(LA.1 a).1;have h3:=ss h (show i+1<=x.graphs.length by omega);rw[<-eF h]at h3;simp only[decide_eq_true_eq];omega
   rw[this];rfl
theorem gn{x:Ix}(h:G0 x){n:Int}{i:Nat}{g:Gr}(a:x.graphs[i]?=some g)(h1:Ch.totLn (x.links.take i)<=n)(h2:n<g.base+g.rows.length):∃r,g.rows[(n-g.base).toNat]?=some r∧E9 x n=some (g,r):=by
  obtain⟨f,k⟩:=R5 h a;have l:0<=n:=by have:=(Q9 h i).1;omega
  have b:(n-g.base).toNat<g.rows.length:=by omega
  refine⟨_,LB b,?_⟩;unfold E9;rw[if_neg (by omega)];have:(x.graphs.find? fun g=>decide (n<g.base+g.rows.length))=some g:=by
    rw[List.find?_eq_some_iff_getElem];obtain⟨d,c⟩:=LA.1 a;refine⟨by simpa using h2,i,d,c,fun j m=>?_⟩;have e:j<x.graphs.length:=by omega
    have h3:=(R5 h (LB e)).1;have h4:=ss h (show j+1<=i by omega);simp only[Bool.not_eq_true',decide_eq_false_iff_not];omega
  rw[this];simp only[Option.bind_some,List.getElem?_eq_getElem b,Option.map_some]
theorem fd{x:Ix}(h:G0 x){n:Int}{g:Gr}{r:Rw}(a:E9 x n=some (g,r)):0<=n∧n<x.len∧∃(i k:Nat),x.graphs[i]?=some g∧g.rows[k]?=some r∧n=g.base+(k:Nat):=by
  have w:¬(n<0∨x.len<=n):=fun q=>by rw[mo h q]at a;simp at a
  refine⟨by omega,by omega,?_⟩;unfold E9 at a;rw[if_neg (by omega)]at a;obtain⟨b,h1,h2⟩:=Option.bind_eq_some_iff.1 a;obtain⟨z,h3,h4⟩:=Option.map_eq_some_iff.1 h2;simp only[Prod.mk.injEq]at h4;obtain⟨rfl,rfl⟩:=h4;obtain⟨i,c⟩:=LM (List.mem_of_find?_eq_some h1);refine⟨i,_,c,h3,?_⟩;have y:=List.find?_some h1;have t:=(R5 h c).2;rw[List.find?_eq_some_iff_getElem]at h1;obtain⟨-,j,o,m,l⟩:=h1;have s:x.graphs[j]?=some b:=by rw[<-m];exact LB o
  have u:=(R5 h s).2;have v:Ch.totLn (x.links.take j)<=n:=by
    rcases Nat.eq_zero_or_pos j with q|q
    ·subst q;simp only[List.take_zero,Ch.totLn];omega
    ·have d:=l (j-1) (by omega);have p:j-1<x.graphs.length:=by omega
     have f:=(R5 h (LB p)).1;simp only[Bool.not_eq_true',decide_eq_false_iff_not]at d;have e:j-1+1=j:=by omega
     rw[e]at f;omega
  have:(((n-b.base).toNat:Nat):Int)=n-b.base:=Int.toNat_of_nonneg (by omega);omega
theorem mp{x:Ix}(h:G0 x){n:Int}(k:0<=n)(d:n<x.len):∃g r,E9 x n=some (g,r):=by
  have key:∀j,j<=x.graphs.length->n<Ch.totLn (x.links.take j)->∃g r,E9 x n=some (g,r):=by
    intro j
    induction j with
    |zero=>intro _ q;simp only[List.take_zero,Ch.totLn]at q;omega
    |succ j f=>
      intro l c;by_cases q:n<Ch.totLn (x.links.take j)
      ·exact f (by omega) q
      ·have b:j<x.graphs.length:=by omega
       have a:=LB b;have i:Ch.totLn (x.links.take j)<=n:=by omega
       obtain⟨r,-,e⟩:=gn h a i (by rw[(R5 h a).1];exact c);exact⟨_,r,e⟩
  exact key _ (LS _) (by rw[<-eF h];exact d)
def W7(w:World)(S T:Nat->Prop)(v:Value)(l:List Rw):Prop:=∃b,Sl w S 48 5 v b l.length∧(∀r∈l,ju r)∧∀(i:Nat)(r:Rw),l[i]?=some r->∃a cap,b[i*5]?=some (.slice a r.par.length cap)∧b[i*5+1]?=some (.int .i64 r.tree)∧b[i*5+2]?=some (.int .i64 r.gen)∧b[i*5+3]?=some (.int .i64 r.state)∧b[i*5+4]?=some (.string r.bits)∧p7 w T a cap r.par
theorem W7.nil(w:World)(S T:Nat->Prop):W7 w S T (.slice none 0 0) []:=⟨[],Sl.nil _ _ _ _,by simp,by simp⟩
theorem W7.turned{w w':World}{S T U:Nat->Prop}{v:Value}{l:List Rw}(h:W7 w S T v l)(c:d7 U w w')(m:∀b,S b->¬U b)(n:∀b,T b->¬U b):W7 w' S T v l:=by obtain⟨p,h1,h2,h3⟩:=h;refine⟨p,h1.turned c m,h2,fun i r o=>?_⟩;obtain⟨a,cap,d,e,f,g,j,k⟩:=h3 i r o;exact⟨a,cap,d,e,f,g,j,k.turned c n⟩
theorem W7.is{w:World}{S T:Nat->Prop}{v:Value}{l:List Rw}(h:W7 w S T v l):∃a cap,v=.slice a l.length cap∧N0 w (fun b=>S b∨T b) a cap l:=by
 obtain⟨z,h1,h2,h3⟩:=h;by_cases f:0<l.length
 ·obtain⟨g,off,cap,rfl,u,e,d,c,-,x⟩:=h1.opens f;refine⟨_,cap,rfl,e,d,h2,fun _=>⟨g,off,rfl,.inl u,x,fun i r j=>?_⟩⟩;have y:=(LA.1 j).1;obtain⟨a,k,m,n,o,p,s,t⟩:=h3 i r j;refine⟨a,k,t.mono fun b q=>.inr q,?_,?_,?_,?_,?_⟩
  ·rw[c _ (by omega)];exact m
  ·rw[Nat.add_assoc,c _ (by omega)];exact n
  ·rw[Nat.add_assoc,c _ (by omega)];exact o
  ·rw[Nat.add_assoc,c _ (by omega)];exact p
  ·rw[Nat.add_assoc,c _ (by omega)];exact s
 ·obtain⟨a,cap,rfl,e,d⟩:=h1.value;exact⟨a,cap,rfl,e,d,h2,fun q=>absurd q f⟩
theorem W7.snoc{w:World}{S T:Nat->Prop}{g:Value}{l:List Rw}{r:Rw}{d:List Value}{a:Option Addr}{cap:Nat}
  (f:d.length=l.length*5) (h2:∀r∈l,ju r) (h3:∀(i:Nat)(r:Rw),l[i]?=some r->∃a cap,d[i*5]?=some (.slice a r.par.length cap)∧d[i*5+1]?=some (.int .i64 r.tree)∧d[i*5+2]?=some (.int .i64 r.gen)∧d[i*5+3]?=some (.int .i64 r.state)∧d[i*5+4]?=some (.string r.bits)∧p7 w T a cap r.par)
  (t:ju r) (s:p7 w T a cap r.par) (u:Sl w S 48 5 g (d++[.slice a r.par.length cap,.int .i64 r.tree,.int .i64 r.gen,.int .i64 r.state,.string r.bits]) (l.length+1)):W7 w S T g (l++[r]):=by
 refine⟨_,by rw[List.length_append];exact u,fun y v=>?_,fun i y e=>?_⟩
 ·rcases List.mem_append.1 v with q|q
  ·exact h2 y q
  ·rw[List.mem_singleton]at q;subst q;exact t
 ·rw[List.getElem?_append]at e;split at e
  ·rename_i q;obtain⟨b,c,h,j,k,m,n,o⟩:=h3 i y e;refine⟨b,c,?_,?_,?_,?_,?_,o⟩
   ·rw[List.getElem?_append_left (by omega)];exact h
   ·rw[List.getElem?_append_left (by omega)];exact j
   ·rw[List.getElem?_append_left (by omega)];exact k
   ·rw[List.getElem?_append_left (by omega)];exact m
   ·rw[List.getElem?_append_left (by omega)];exact n
  ·rename_i q;have p:i=l.length:=by have:=(LA.1 e).1;simp only[List.length_cons,List.length_nil]at this;omega
   subst p;simp only[Nat.sub_self,List.getElem?_cons_zero,Option.some.injEq]at e;subst e;refine⟨a,cap,?_,?_,?_,?_,?_,s⟩
   ·rw[List.getElem?_append_right (by omega)];simp[f]
   ·rw[List.getElem?_append_right (by omega)];simp[f]
   ·rw[List.getElem?_append_right (by omega)];simp[f]
   ·rw[List.getElem?_append_right (by omega)];simp[f]
   ·rw[List.getElem?_append_right (by omega)];simp[f]
theorem info3g:(prog.info? 3).map (fun i=>(i.zero,i.size,i.bytes))=some (some (.int .i64 0),1,8):=by kernel_rfl
theorem uV(a b:List Int):ic (a++b)=ic a++ic b:=by simp[ic]
theorem L7.at {w:World} {e:Nat->Nat} {f:Value} {l:List Gr} (h:L7 w e f l) {i:Nat} {g:Gr} (j:l[i]?=some g):∃b off cap a c,f=.slice (some ⟨b,off,none⟩) l.length cap∧b<w.heap.size∧e b=3∧
  w.cell? ⟨b,off+i*6,none⟩=some (.int .i64 g.base)∧w.cell? ⟨b,off+i*6+1,none⟩=some (.int .i64 g.h)∧w.cell? ⟨b,off+i*6+2,none⟩=some (.int .i64 g.p)∧w.cell? ⟨b,off+i*6+3,none⟩=some (.int .i64 g.m)∧w.cell? ⟨b,off+i*6+4,none⟩=some (.int .u32 g.seed)∧
  w.cell? ⟨b,off+i*6+5,none⟩=some (.slice a g.rows.length c)∧iF g∧N0 w (fun b=>e b=4) a c g.rows:=by
 obtain⟨y,h1,h2⟩:=h;have z:=(LA.1 j).1;obtain⟨b,off,cap,rfl,v,-,-,d,-,x⟩:=h1.opens (by omega);obtain⟨a,c,k,n,o,q,r,s,t,u⟩:=h2 i g j;refine⟨b,off,cap,a,c,rfl,x,v,?_,?_,?_,?_,?_,?_,t,u⟩
 ·rw[d _ (by omega)];exact k
 ·rw[Nat.add_assoc,d _ (by omega)];exact n
 ·rw[Nat.add_assoc,d _ (by omega)];exact o
 ·rw[Nat.add_assoc,d _ (by omega)];exact q
 ·rw[Nat.add_assoc,d _ (by omega)];exact r
 ·rw[Nat.add_assoc,d _ (by omega)];exact s
theorem L7.len{w:World}{c:Nat->Nat}{b:Value}{l:List Gr}(h:L7 w c b l):∃a cap,b=.slice a l.length cap:=by obtain⟨d,h1,-⟩:=h;obtain⟨a,cap,e,-,-⟩:=h1.value;exact⟨a,cap,e⟩
def dz(g:Gr):List Int:=g.rows.map (·.gen)
theorem uW(g:Gr):(dz g).length=g.rows.length:=by simp[dz]
def uX(w:World)(l:List Int)(e:Ending)(w':World):Prop:=∃v,e=.returned v∧Sl w' (fun b=>w.heap.size<=b) 3 1 v (ic l) l.length∧TF w w'
def Db(w:World)(gs:List Gr)(g:Nat)(c a:Value)(wr:World):Prop:=∃i:Nat,i+g=gs.length∧a=.int .i64 i∧Sl wr (fun b=>w.heap.size<=b) 3 1 c (ic ((gs.take i).flatMap dz)) ((gs.take i).flatMap dz).length∧d7 (fun b=>w.heap.size<=b) w wr
def Dd(w:World)(a:List Int)(rs:List Rw)(g:Nat)(d c:Value)(wr:World):Prop:=∃j:Nat,j+g=rs.length∧c=.int .i64 j∧Sl wr (fun b=>w.heap.size<=b) 3 1 d (ic (a++(rs.take j).map (·.gen))) (a.length+j)∧d7 (fun b=>w.heap.size<=b) w wr
theorem yk{w:World}{N:Nat->Nat}{p:Nat}{dv G gv:Value}{x:Ix}(h:ed w N p dv G gv x)(n:G0 x):CZ 64 #[pt p] w (uX w (dx x)):=by
 obtain⟨Z,X⟩:=EX (uX w (dx x));have HZ:Hid (Z=uX w (dx x)):=X;rw[<-X];have HG:Hid (L7 w N gv x.graphs):=h.graphs;have am:Hid (∀i,i<=x.graphs.length->((x.graphs.take i).flatMap dz).length<=524288):=fun i k=>by have h1:(((x.graphs.take i).flatMap dz).length:Int)=Ch.totLn (x.links.take i):=ip n i (by rw[<-n.both];exact k);have h2:=Q9 n i;omega
 have aE:Hid (∀b,N b≠0->b<w.heap.size):=h.bnd;obtain⟨ga,gc,aB⟩:=h.graphs.len;subst aB;have c2:w.cell? ⟨p,2,none⟩=some (.slice ga x.graphs.length gc):=g9 h.blk 2 _ rfl;have aH:=i6 h.blk;have HE:Hid (dx x=x.graphs.flatMap dz):=i7 rfl;have ah:x.graphs.length<=8:=by rw[n.both];exact n.many
 have ar:Hid (∀g∈x.graphs,g.rows.length<=65536):=fun g f=>by obtain⟨i,k⟩:=LM f;obtain⟨h1,h2,h3⟩:=(n.graph i g k).1.1;omega
 generalize x.graphs=gs at *;have ap:Hid (gs.length<=8):=ah;obtain⟨L,V⟩:=EX gs.length;have e:Hid (L=gs.length):=V;rw[<-V]at c2;clear X h n V ah;go_enter func64,ntmps64;go_wp2;have B0:Hid (Db w gs L (.slice none 0 0) (.int .i64 0) w):=⟨0,by have:=e.o;omega,rfl,by simpa[ic]using Sl.nil _ _ _ _,TQ⟩;go_loopg[3,13] L (fun g G iv wr=>Db w gs g G iv wr)
 case atStart=>exact B0.o
 case round=>
  clear B0;obtain⟨i,af,rfl,s,F⟩:=hrel;have O:Hid (i+gk=gs.length):=af;have a:Hid (d7 (fun b=>w.heap.size<=b) w wr):=F;obtain⟨la,lc,rfl,-,-⟩:=s.value;have C:=i7 s;clear af F s;by_cases ai:i<L
  ·obtain⟨g,f⟩:∃g,gs[i]?=some g:=⟨_,LB (by rw[<-e.o];exact ai)⟩;have ao:Hid (gs[i]?=some g):=f;obtain⟨b,off,cap,ra,rc,ae,ad,az,c0,c1,ac,c3,c4,U,gok,hrw⟩:=HG.o.at f;simp only[Value.slice.injEq]at ae;obtain⟨rfl,-,-⟩:=ae;have l:¬w.heap.size<=b:=by omega
   replace c0:=m6 c0 a.o l;replace c1:=m6 c1 a.o l;replace ac:=m6 ac a.o l;replace c3:=m6 c3 a.o l;replace c4:=m6 c4 a.o l;replace U:=m6 U a.o l;have aG:b<wr.heap.size:=LC ad a.o.size;obtain⟨R,y⟩:=EX g.rows;obtain⟨K,v⟩:=EX R.length;rw[<-y,<-v]at U;rw[<-y]at hrw;have d:Hid (K=R.length∧R=g.rows∧K<=65536):=⟨v,y,by rw[v,y];exact ar.o g (LI f)⟩;have au:Hid (N0 w (fun b=>N b=4) ra rc R):=hrw;obtain⟨u,E⟩:=EX ((gs.take i).flatMap dz);rw[<-E]at C;obtain⟨t,B⟩:=EX u.length;rw[<-E,<-B];have H:Hid (t=u.length∧u=(gs.take i).flatMap dz):=⟨B,E⟩
   have aq:Hid (t+K<=524288):=i7 (by
    have h1:=am.o (i+1) (by rw[<-e.o];omega);have D:gs.take (i+1)=gs.take i++[g]:=by rw[List.take_add_one,f];rfl
    rw[D,List.flatMap_append,List.length_append,<-E,<-B]at h1;simp only[List.flatMap_cons,List.flatMap_nil,List.append_nil,uW]at h1;rw[v,y];exact h1)
   have av:Hid (Sl wr (fun b=>w.heap.size<=b) 3 1 (.slice la t lc) (ic u) t):=by rw[B];exact C.o
   obtain⟨W1,W⟩:=EX (wr.alloc (.cells #[.int .i64 g.base,.int .i64 g.h,.int .i64 g.p,.int .i64 g.m,.int .u32 g.seed,.slice ra K rc] 123));have aw:Hid (W1=wr.alloc (.cells #[.int .i64 g.base,.int .i64 g.h,.int .i64 g.p,.int .i64 g.m,.int .u32 g.seed,.slice ra K rc] 123)):=W;have B2:Hid (Dd w u R K (.slice la t lc) (.int .i64 0) W1):=i7 (by rw[W];refine⟨0,by rw[v];omega,rfl,?_,a.o.new _⟩;simp only[List.take_zero,List.map_nil,List.append_nil,Nat.add_zero];rw[<-B];exact av.o.turned (d7.alloc (fun _=>False) _ _) fun _ _ z=>z);clear f ad az l gok hrw y v E B W C;go_wp2;rw[<-aw.o];generalize wr=Wk at *;generalize aA:gk=Gk at *;clear aA;go_loopg[3,20] K (fun g G iv wr=>Dd w u R g G iv wr)
   case atStart=>exact B2.o
   case round=>
    clear B2;obtain⟨j,ag,rfl,s,F⟩:=hrel;have Q:Hid (j+gk=R.length):=ag;have c:Hid (d7 (fun b=>w.heap.size<=b) w wr):=F;obtain⟨ja,jc,rfl,-,-⟩:=s.value;have I:=i7 s;clear ag F s;by_cases aj:j<K
    ·obtain⟨r,hr⟩:∃r,R[j]?=some r:=⟨_,LB (by rw[<-d.o.1];exact aj)⟩;have HR:Hid (R[j]?=some r):=hr;obtain⟨q,qo,rfl,aD,ak,J,M,aC,d0,d1,d2,d3,d4⟩:=dM au.o j r hr;have A:¬w.heap.size<=q:=by omega
     replace d0:=m6 d0 c.o A;replace d1:=m6 d1 c.o A;replace d2:=m6 d2 c.o A;replace d3:=m6 d3 c.o A;replace d4:=m6 d4 c.o A;have aI:q<wr.heap.size:=LC ak c.o.size;have m1:Hid (t+j+1<=maxLen∧(t+j+1)*8<=140737488355328):=i7 (by have:=aq.o;simp only[maxLen];omega);rw[<-H.o.1]at I;rw[<-H.o.1];obtain⟨W2,ay⟩:=EX ((wr.alloc (.cells #[.slice J r.par.length M,.int .i64 r.tree,.int .i64 r.gen,.int .i64 r.state,.string r.bits] 48)).alloc (.cells #[.int .i64 r.gen] 3));have S:Hid (TF wr ((wr.alloc (.cells #[.slice J r.par.length M,.int .i64 r.tree,.int .i64 r.gen,.int .i64 r.state,.string r.bits] 48)).alloc (.cells #[.int .i64 r.gen] 3))):=TA.new _;have ax:Hid (Src prog 1 41 (.slice (some ⟨wr.heap.size+1,0,none⟩) 1 1) 1 [.int .i64 r.gen] ((wr.alloc (.cells #[.slice J r.par.length M,.int .i64 r.tree,.int .i64 r.gen,.int .i64 r.state,.string r.bits] 48)).alloc (.cells #[.int .i64 r.gen] 3))):=i7 (by have:=R6 (P:=prog) underlying41 (.int .i64 r.gen) rfl (wr.alloc (.cells #[.slice J r.par.length M,.int .i64 r.tree,.int .i64 r.gen,.int .i64 r.state,.string r.bits] 48));simpa using this);clear hr ak A aC aD ay;go_wp2_with(at_builtin;refine m7 rfl _ _ 41 41 rfl (I.o.turned (T:=fun _=>False) S.o (fun _ _ q=>q)) underlying41 info3g rfl (by decide) rfl (.slice (some ⟨wr.heap.size+1,0,none⟩) 1 1) rfl ax.o m1.o.1 m1.o.2 ?_;intro v5 w5 aa al;obtain⟨a5,aF,rfl,-,-⟩:=aa.value;have Y:=i7 (And.intro aa al);clear aa al);go_roundg (gk-1)
     case measure=>have:=Q.o;have:=d.o;omega
     case rel=>
      refine⟨j+1,by have:=Q.o;have:=d.o;omega,by have:=d.o;simp[wrap64];omega,?_,c.o.tr (S.o.comp Y.o.2 fun i k z=>z.elim False.elim id)⟩;have D:R.take (j+1)=R.take j++[r]:=by rw[List.take_add_one,HR.o];rfl
      rw[D,List.map_append,<-List.append_assoc,uV,<-H.o.1];refine Y.o.1.widen fun b hb=>?_
      have h1:=c.o.size;have h2:=S.o.size;rcases hb with z|z
      ·exact z
      ·omega
    ·have hj:j=K:=by have:=Q.o;have:=d.o;omega
     have an:Hid (R.take j=R):=LQ (by have:=d.o;omega);rw[an.o]at I;clear aj;subst hj;go_wp2;go_roundg (Gk-1)
     case measure=>have:=O.o;have:=e.o;omega
     case rel=>
      have D:gs.take (i+1)=gs.take i++[g]:=by rw[List.take_add_one,ao.o];rfl
      have e2:(gs.take (i+1)).flatMap dz=u++R.map (·.gen):=by rw[D,List.flatMap_append,<-H.o.2,d.o.2.1];simp[dz]
      refine⟨i+1,by have:=O.o;have:=e.o;omega,by have:=ap.o;have:=e.o;simp[wrap64];omega,?_,c.o⟩;rw[e2,List.length_append,List.length_map,<-d.o.1];exact I.o
  ·have k:i=L:=by have:=O.o;have:=e.o;omega
   have ab:Hid (gs.take i=gs):=LQ (by have:=e.o;omega);rw[ab.o]at C;rw[ab.o];clear ai;subst k;go_wp2;rw[HZ.o];exact⟨_,rfl,by rw[HE.o];exact C.o,a.o.mono fun i k z=>by omega⟩
end Go.Proofs.YtofcogekgcgjhaaGreatDoor
