/- Packed. -/
import Derived.Test.YtofcogekgcgjhaaGreatDoorZzbl
set_option maxRecDepth 100000
set_option maxHeartbeats 8000000
namespace Go.Proofs.YtofcogekgcgjhaaGreatDoor
open Go.RowKit Go.Mine Go.Mine.Ac Go.Proofs.Tryz
theorem yy{D D1:Dk}{n:Int}{a c:ByteArray}{k:Nat}(h:D3 D graphT a (Ch.nameS n)=(D1,k))(b:k≠0):L5 D n a c=(D1,k):=by
 unfold L5;rw[h];cases k with
 |zero=>exact absurd rfl b
 |succ k=>rfl
theorem yz{D D1 D2:Dk}{n:Int}{b a:ByteArray}{k:Nat}(h:D3 D graphT b (Ch.nameS n)=(D1,0))(h2:D3 D1 chainT a chainB=(D2,k))(c:k≠0):L5 D n b a=(D2,k):=by
 unfold L5;rw[h];simp only;rw[h2];cases k with
 |zero=>exact absurd rfl c
 |succ k=>rfl
theorem jJ{D D1 D2:Dk}{n:Int}{b a:ByteArray}(h:D3 D graphT b (Ch.nameS n)=(D1,0))(h2:D3 D1 chainT a chainB=(D2,0)):L5 D n b a=D2.syncNames:=by unfold L5;rw[h];simp only;rw[h2];rfl
theorem BN{D:Dk}{x:Ix}{links:List Ch.Ln}{graphs:List Gr}{g:Gr}(h:(K9 g).2≠0):dG D x links graphs g=(D,x,(K9 g).2):=by unfold dG;rw[if_pos h]
theorem BO{D:Dk}{x:Ix}{links:List Ch.Ln}{graphs:List Gr}{g:Gr}(h:(K9 g).2=0)(h2:(L4 (r7 x links g)).2≠0):dG D x links graphs g=(D,x,(L4 (r7 x links g)).2):=by unfold dG;rw[if_neg (by simpa using h),if_pos h2]
theorem BP{D D1:Dk}{x:Ix}{links:List Ch.Ln}{graphs:List Gr}{g:Gr}{k:Nat}(h:(K9 g).2=0)(h2:(L4 (r7 x links g)).2=0)(h3:L5 D (Ch.iy x.links) (K9 g).1 (L4 (r7 x links g)).1=(D1,k))(a:k≠0):dG D x links graphs g=(Ag D1 (Ch.iy x.links),x,k):=by
 unfold dG;rw[if_neg (by simpa using h),if_neg (by simpa using h2),h3];cases k with
 |zero=>exact absurd rfl a
 |succ k=>rfl
theorem pO{D D1:Dk}{x:Ix}{links:List Ch.Ln}{graphs:List Gr}{g:Gr}(h:(K9 g).2=0)(h2:(L4 (r7 x links g)).2=0)(h3:L5 D (Ch.iy x.links) (K9 g).1 (L4 (r7 x links g)).1=(D1,0)):
  dG D x links graphs g=(F7 (r7 x links g) D1.names D1,⟨r7 x links g,graphs++[g]⟩,0):=by
 unfold dG;rw[if_neg (by simpa using h),if_neg (by simpa using h2),h3];rfl
structure sS (w:World) (S:Nat->Prop) (rx:Nat->Nat) (d p:Nat) (lv gv:Value) (D:Dk) (x:Ix) (SL SG SR:Nat->Prop) (la:Option Addr) (lc:Nat) (links:List Ch.Ln) (ga:Option Addr) (gc:Nat) (graphs:List Gr) (gvs:List Value) (ra:Option Addr) (rc:Nat) (g:Gr):Prop where
 disk:J0 w S d D
 ok:D.Ok
 few:R7 D 800000000
 sb:∀b,S b->b<w.heap.size
 ix:ed w rx p (pt d) lv gv x
 ixok:G0 x
 low:Ch.Bx x.links
 dis:∀b,S b->rx b=0
 ls:Sl w SL 120 3 (.slice la links.length lc) (Ch.lcells links) links.length
 lok:Ch.jx links
 lmany:links.length<=8
 gs:Sl w SG 123 6 (.slice ga graphs.length gc) gvs graphs.length
 gat:∀(i:Nat)(y:Gr),graphs[i]?=some y->∃a cap,gvs[i*6]?=some (.int .i64 y.base)∧gvs[i*6+1]?=some (.int .i64 y.h)∧gvs[i*6+2]?=some (.int .i64 y.p)∧gvs[i*6+3]?=some (.int .i64 y.m)∧gvs[i*6+4]?=some (.int .u32 y.seed)∧gvs[i*6+5]?=some (.slice a y.rows.length cap)∧iF y∧N0 w SR a cap y.rows
 gmany:graphs.length<=8
 rows:N0 w SR ra rc g.rows
 gok:iF g
 gfew:g.rows.length<=65536
 sl:∀b,SL b->¬S b
 sg:∀b,SG b->¬S b∧¬b=p
 sr:∀b,SR b->¬S b∧¬b=p∧b<w.heap.size
 tab:∀W,d7 (fun b=>S b∨b=p) w W->Ch.jr W∧Ch.ia W
def I3(w:World)(S SR:Nat->Prop)(g:Nat->Nat)(d p:Nat)(r:Dk×Ix×Nat)(e:Ending)(w':World):Prop:=e=.returned (.int .i64 r.2.2)∧∃S' a f c,J0 w' S' d r.1∧(∀b,S' b->S b∨w.heap.size<=b)∧(∀b,S' b->b<w'.heap.size)∧ed w' a p (pt d) f c r.2.1∧(∀b,a b≠0->g b≠0∨SR b∨w.heap.size<=b)∧(∀b,S' b->a b=0)∧d7 (fun b=>S b∨b=p) w w'
theorem kG(l:List Ch):(er l).size=10+8*l.length+dataSize l:=by unfold er;rw[jR,G6];have h1:(m8 l).length=l.length:=Q6 l;have h2:dataSize (m8 l)=dataSize l:=dW (J7 l);simp only[lq,magicC,List.length_append,List.length_cons,List.length_nil,j6,M9,dV];omega
theorem yA(g:Gr):(K9 g).1.size<=4194304:=by
 unfold K9;split
 ·split
  ·simp[emp,ByteArray.size]
  ·split
   ·rename_i h;rw[kG];unfold t7 at h;split at h
    ·simp at h
    ·split at h
     ·exact absurd h (by assumption)
     ·split at h
      ·simp at h
      ·omega
   ·simp[emp,ByteArray.size]
 ·simp[emp,ByteArray.size]
theorem jK(l:List Ch.Ln):(L4 l).1.size<=1000:=by
 unfold L4;split
 ·rename_i h;have h1:=(Ch.fU l h).1;unfold Ch.X4;rw[jR];have h2:∀(a:List UInt8),(⟨a.toArray⟩:ByteArray).size=a.length:=fun a=>by simp[ByteArray.size]
  rw[h2];unfold Ch.lK;simp only[List.length_append,j6,Ch.Q8,Ch.magicM,List.length_cons,List.length_nil];omega
 ·simp[emp,ByteArray.size]
theorem Aw(a b c:Value)(h1:∀d∈[a,b,c],d.oneCell'=true)(U:World):Src prog 3 113 (.slice (some ⟨U.heap.size,0,none⟩) 1 1) 1 [a,b,c] (U.alloc (.cells #[a,b,c] 120))∧Src prog 3 113 (.slice (some ⟨U.heap.size,0,none⟩) 1 1) 1 [a,b,c] (U.alloc (.cells #[a,b,c] 120)).drew:=⟨G5 120 underlying113 _ h1 U,ew 120 underlying113 _ h1 U⟩
theorem mE(a b:List Ch.Ln):Ch.lcells (a++b)=Ch.lcells a++Ch.lcells b:=by
 induction a with|nil=>rfl|cons x a c=>simp[Ch.lcells,c]
theorem vz(l:List Ch.Ln):∀b∈Ch.lcells l,b.oneCell'=true:=by
 induction l with
 |nil=>simp[Ch.lcells]
 |cons x l c=>
  intro b a;simp only[Ch.lcells,List.mem_cons]at a;rcases a with rfl|rfl|rfl|a
  ·rfl
  ·rfl
  ·rfl
  ·exact c b a
theorem od{n:Nat}{D:Dk}(h:D.Ok)(b:R7 D n)(tmp a name:ByteArray):(D3 D tmp a name).1.Ok∧R7 (D3 D tmp a name).1 (n+2):=by
 have:=cZ (P:=fun n d=>R7 d n∧d.Ok) (fun n d q=>⟨q.1.mono (Nat.le_succ _),q.2⟩) (fun n d s q=>⟨q.1.create s,q.2.createOk s⟩) (fun n d s t q=>⟨q.1.append s t,q.2.appendOk s t⟩) (fun n d s q=>⟨q.1.sync s,q.2.syncOk s⟩)
  (fun n d s t q=>⟨q.1.rename s t,q.2.renameOk s t⟩) ⟨b,h⟩ tmp a name
 exact⟨this.2,this.1⟩
theorem vA{w:World}{SR:Nat->Prop}{c:List Value}{l:List Gr}(v:c.length=l.length*6)(h:∀(i:Nat)(y:Gr),l[i]?=some y->∃a cap,c[i*6]?=some (.int .i64 y.base)∧c[i*6+1]?=some (.int .i64 y.h)∧c[i*6+2]?=some (.int .i64 y.p)∧c[i*6+3]?=some (.int .i64 y.m)∧c[i*6+4]?=some (.int .u32 y.seed)∧c[i*6+5]?=some (.slice a y.rows.length cap)∧iF y∧N0 w SR a cap y.rows):
  ∀d∈c,d.oneCell'=true:=fun d t=>by
 obtain⟨j,b⟩:=LM t;have u:=(LA.1 b).1;have r:j / 6<l.length:=by omega
 obtain⟨a,cap,e,f,g,k,n,o,-,-⟩:=h (j / 6) _ (LB r);have s:j% 6=0∨j% 6=1∨j% 6=2∨j% 6=3∨j% 6=4∨j% 6=5:=by omega
 rcases s with q|q|q|q|q|q
 ·rw[show j=j / 6*6 by omega,e]at b;obtain rfl:=Option.some.inj b;rfl
 ·rw[show j=j / 6*6+1 by omega,f]at b;obtain rfl:=Option.some.inj b;rfl
 ·rw[show j=j / 6*6+2 by omega,g]at b;obtain rfl:=Option.some.inj b;rfl
 ·rw[show j=j / 6*6+3 by omega,k]at b;obtain rfl:=Option.some.inj b;rfl
 ·rw[show j=j / 6*6+4 by omega,n]at b;obtain rfl:=Option.some.inj b;rfl
 ·rw[show j=j / 6*6+5 by omega,o]at b;obtain rfl:=Option.some.inj b;rfl
def g6(ra:Option Addr)(rc:Nat)(g:Gr):List Value:=[.int .i64 g.base,.int .i64 g.h,.int .i64 g.p,.int .i64 g.m,.int .u32 g.seed,.slice ra g.rows.length rc]
theorem vB{w:World}{SR:Nat->Prop}{b:List Value}{l:List Gr}{ra:Option Addr}{rc:Nat}{g:Gr}(k:b.length=l.length*6)(h:∀(i:Nat)(y:Gr),l[i]?=some y->∃a cap,b[i*6]?=some (.int .i64 y.base)∧b[i*6+1]?=some (.int .i64 y.h)∧b[i*6+2]?=some (.int .i64 y.p)∧b[i*6+3]?=some (.int .i64 y.m)∧b[i*6+4]?=some (.int .u32 y.seed)∧b[i*6+5]?=some (.slice a y.rows.length cap)∧iF y∧N0 w SR a cap y.rows)
  (o:N0 w SR ra rc g.rows) (n:iF g):∀(i:Nat)(y:Gr),(l++[g])[i]?=some y->∃a cap,(b++g6 ra rc g)[i*6]?=some (.int .i64 y.base)∧(b++g6 ra rc g)[i*6+1]?=some (.int .i64 y.h)∧(b++g6 ra rc g)[i*6+2]?=some (.int .i64 y.p)∧(b++g6 ra rc g)[i*6+3]?=some (.int .i64 y.m)∧(b++g6 ra rc g)[i*6+4]?=some (.int .u32 y.seed)∧(b++g6 ra rc g)[i*6+5]?=some (.slice a y.rows.length cap)∧iF y∧N0 w SR a cap y.rows:=fun i y c=>by
 rw[List.getElem?_append]at c;split at c
 ·rename_i f;obtain⟨a,cap,q,r,s,t,u,v,d,e⟩:=h i y c;refine⟨a,cap,?_,?_,?_,?_,?_,?_,d,e⟩<;>rw[List.getElem?_append_left (by omega)]<;>assumption
 ·rename_i f;have j:i=l.length:=by have:=(LA.1 c).1;simp only[List.length_cons,List.length_nil]at this;omega
  subst j;simp only[Nat.sub_self,List.getElem?_cons_zero,Option.some.injEq]at c;subst c;refine⟨ra,rc,?_,?_,?_,?_,?_,?_,n,o⟩<;>rw[List.getElem?_append_right (by omega),<-k]
  ·rw[Nat.sub_self];rfl
  ·rw[show b.length+1-b.length=1 by omega];rfl
  ·rw[show b.length+2-b.length=2 by omega];rfl
  ·rw[show b.length+3-b.length=3 by omega];rfl
  ·rw[show b.length+4-b.length=4 by omega];rfl
  ·rw[show b.length+5-b.length=5 by omega];rfl
theorem yB{W:World}{b:Nat}(l:List Value)(e:l.length=6)(h1:∀a∈l,a.oneCell'=true)(c:W.heap[b]?=some (.cells l.toArray 123)):Src prog 6 114 (.slice (some ⟨b,0,none⟩) 1 1) 1 l W:=by rw[<-e];refine Src.ofSlice _ underlying114 ⟨b,0,none⟩ 1 1 l (by simp) (fun j a d=>?_) h1;rw[Addr.add_lit,Nat.zero_add];exact g9 c j a (by simpa using d)
theorem Ec(l:List Value)(a:l.length=6)(h1:∀b∈l,b.oneCell'=true)(U:World):Src prog 6 114 (.slice (some ⟨U.heap.size,0,none⟩) 1 1) 1 l (U.alloc (.cells l.toArray 123)):=by rw[<-a];exact G5 123 underlying114 _ h1 U
theorem BQ{w:World}{S c b SR:Nat->Prop}{m:Nat->Nat}{d p:Nat}{l e:Value}{D:Dk}{x:Ix}{j ga ra:Option Addr}{k gc rc:Nat}{links:List Ch.Ln}{graphs:List Gr}{f:List Value}{g:Gr}(h:sS w S m d p l e D x c b SR j k links ga gc graphs f ra rc g)(i:(L4 (r7 x links g)).2=0):Ch.jx (r7 x links g)∧(r7 x links g).length<=8:=by
 refine⟨fun y a=>?_,(Ch.fU _ (wH i)).1⟩;unfold r7 at a;rcases List.mem_append.1 a with q|q
 ·exact h.lok y q
 ·rw[List.mem_singleton]at q;subst q;have:=h.gfew;have n:=Ch.jA x.links h.low;refine⟨⟨by simp only;omega,by simp only;omega⟩,⟨by simp only;omega,by simp only;omega⟩,?_⟩;simp only;exact O0 _
def vC(w:World)(S SR:Nat->Prop)(g:Nat->Nat)(d p:Nat)(c:Dk)(X:Ix)(f:Value)(w':World):Prop:=∃S' a e,J0 w' S' d c∧(∀b,S' b->S b∨w.heap.size<=b)∧(∀b,S' b->b<w'.heap.size)∧ed w' a p (pt d) f e X∧(∀b,a b≠0->g b≠0∨SR b∨w.heap.size<=b)∧(∀b,S' b->a b=0)∧d7 (fun b=>S b∨b=p) w w'
theorem Ed{w m wc e:World}{S W V SR:Nat->Prop}{N:Nat->Nat}{d p:Nat}{lv gv:Value}{D:Dk}{x:Ix}{la ga ra:Option Addr}{lc gc rc:Nat}{links:List Ch.Ln}{graphs:List Gr}{v:List Value}{g:Gr}(h:sS w S N d p lv gv D x W V SR la lc links ga gc graphs v ra rc g)
  {E:Dk} {L:List Ch.Ln} {nv:Nat} {j k:Value} {S':Nat->Prop} (ae:w.heap.size<=nv) (ad:Sl m (fun b=>nv<=b) 120 3 j (Ch.lcells L) L.length) (P:TF w m)
  (f:A9 m S d E wc) (ac:Sl e S' 123 6 k (v++g6 ra rc g) (graphs.length+1)) (A:∀b,S' b->wc.heap.size<=b∧b<e.heap.size) (C:d7 (fun b=>wc.heap.size<=b) wc e):
  vC w S SR N d p E ⟨L,graphs++[g]⟩ j ((e.setCell ⟨p,1,none⟩ j).setCell ⟨p,2,none⟩ k):=by
 classical
 obtain⟨F,f1,s,t,u⟩:=f;have hp:=i6 h.ix.blk;have z6:=P.size;have zc:=u.size;have z4:=C.size;have H:¬S p:=fun z=>by have:=h.dis p z;rw[h.ix.r1]at this;simp at this
 have G:¬F p:=fun q=>by
  rcases s p q with y|y
  ·exact H y
  ·omega
 have tA:d7 S w wc:=P.comp u fun i _ q=>q.elim False.elim id
 have Q:d7 S w e:=tA.comp C fun i hi q=>q.elim id fun z=>by omega
 have R:d7 (fun b=>S b∨b=p) w ((e.setCell ⟨p,1,none⟩ j).setCell ⟨p,2,none⟩ k):=((Q.mono fun _ _ z=>.inl z).set (p:=⟨p,1,none⟩) (.inr rfl) _).set (p:=⟨p,2,none⟩) (.inr rfl) _;have O:d7 (fun b=>b=p) e ((e.setCell ⟨p,1,none⟩ j).setCell ⟨p,2,none⟩ k):=((d7.refl (fun b=>b=p) e).set (p:=⟨p,1,none⟩) rfl _).set (p:=⟨p,2,none⟩) rfl _;have af:((e.setCell ⟨p,1,none⟩ j).setCell ⟨p,2,none⟩ k).heap.size=e.heap.size:=by rw[n8,n8]
 have U:d7 (fun b=>wc.heap.size<=b∨b=p) wc ((e.setCell ⟨p,1,none⟩ j).setCell ⟨p,2,none⟩ k):=C.comp O fun i _ q=>q
 have aa:=j9 h.ix.blk Q H;have ab:((e.setCell ⟨p,1,none⟩ j).setCell ⟨p,2,none⟩ k).heap[p]?=some (.cells #[pt d,j,k] 116):=j8 (w:=e.setCell ⟨p,1,none⟩ j) (j8 (w:=e) aa j) k;obtain⟨l,r⟩:∃l:Nat->Nat,l=fun b=>if b=p then 1 else if SR b then 4 else if nv<=b∧b<m.heap.size then 2 else if wc.heap.size<=b∧b<e.heap.size then 3 else 0:=⟨_,rfl⟩
 have r1:l p=1:=by rw[r];simp
 have r4:∀b,SR b->l b=4:=fun b c=>by rw[r];simp only;rw[if_neg (h.sr b c).2.1,if_pos c]
 have r2:∀b,nv<=b->b<m.heap.size->l b=2:=fun b h1 h2=>by rw[r];simp only;rw[if_neg (by omega),if_neg (fun z=>by have:=(h.sr b z).2.2;omega),if_pos ⟨h1,h2⟩]
 have r3:∀b,wc.heap.size<=b->b<e.heap.size->l b=3:=fun b h1 h2=>by rw[r];simp only;rw[if_neg (by omega),if_neg (fun z=>by have:=(h.sr b z).2.2;omega),if_neg (by omega),if_pos ⟨h1,h2⟩]
 have B:∀b,l b≠0->b=p∨SR b∨(nv<=b∧b<m.heap.size)∨(wc.heap.size<=b∧b<e.heap.size):=fun b c=>by
  rw[r]at c;simp only at c;by_cases I:b=p
  ·exact .inl I
  by_cases J:SR b
  ·exact .inr (.inl J)
  by_cases K:nv<=b∧b<m.heap.size
  ·exact .inr (.inr (.inl K))
  by_cases M:wc.heap.size<=b∧b<e.heap.size
  ·exact .inr (.inr (.inr M))
  rw[if_neg I,if_neg J,if_neg K,if_neg M]at c;exact absurd rfl c
 refine⟨F,l,k,f1.turned U fun b c z=>z.elim (fun z=>by have:=t b c;omega) fun z=>G (z▸c),fun b c=>(s b c).imp id fun z=>by omega,fun b c=>by have:=t b c;omega,⟨r1,ab,?_,⟨v++g6 ra rc g,?_,fun i y hy=>?_⟩,fun b c=>?_⟩,fun b c=>?_,fun b c=>?_,R⟩
 ·have n:Sl m (fun b=>nv<=b∧b<m.heap.size) 120 3 j (Ch.lcells L) L.length:=ad.bound;have o:=((n.turned u fun b c z=>by have:=h.sb b z;omega).turned U fun b c z=>by omega);exact o.widen fun b c=>r2 b c.1 c.2
 ·have n:=ac.turned O fun b c z=>by have:=A b c;omega
  have o:=n.widen (T:=fun b=>l b=3) fun b c=>r3 b (A b c).1 (A b c).2
  rw[show(graphs++[g]).length=graphs.length+1 by simp];exact o
 ·obtain⟨a,cap,X,n,o,Y,Z,e5,e6,e7⟩:=vB h.gs.1 h.gat h.rows h.gok i y hy;exact⟨a,cap,X,n,o,Y,Z,e5,e6,(e7.turned R fun b c z=>z.elim (h.sr b c).1 (h.sr b c).2.1).mono r4⟩
 ·rcases B b c with z|z|z|z
  ·omega
  ·have:=(h.sr b z).2.2;omega
  ·omega
  ·omega
 ·rcases B b c with z|z|z|z
  ·left;rw[z,h.ix.r1];decide
  ·exact .inr (.inl z)
  ·right;right;omega
  ·right;right;omega
 ·apply LK;intro z;have h3:=t b c;rcases B b z with z|z|z|z
  ·exact G (z▸c)
  ·rcases s b c with y|y
   ·exact(h.sr b z).1 y
   ·have:=(h.sr b z).2.2;omega
  ·rcases s b c with y|y
   ·have:=h.sb b y;omega
   ·omega
  ·omega
def seqSnd:Code->Code| .seq _ y=>y|c=>c
theorem mF(links:List Ch.Ln):∀(l:List ByteArray)(j:Nat)(x:ByteArray)(D:Dk),l[j]?=some x->F7 links (l.take (j+1)) D=if(Ch.H7 x).2=true∧Ch.H2 links (Ch.H7 x).1=false then((F7 links (l.take j) D).remove x).1 else F7 links (l.take j) D
 | [],j,x,D,h=>by simp at h
 |y::l,0,x,D,h=>by simp only[List.getElem?_cons_zero,Option.some.injEq]at h;subst h;simp only[List.take_succ_cons,List.take_zero,F7]
 |y::l,j+1,x,D,h=>by simp only[List.take_succ_cons,F7];exact mF links l j x _ (by simpa using h)
theorem Ax{links:List Ch.Ln}{l:List ByteArray}{n:Nat}{D:Dk}(h:D.Ok)(a:R7 D n):(F7 links l D).Ok∧R7 (F7 links l D) (n+l.length):=by have:=eZ (P:=fun n d=>R7 d n∧d.Ok) (fun n d q=>⟨q.1.mono (Nat.le_succ _),q.2⟩) (fun n d s q=>⟨q.1.remove s,q.2.removeOk s⟩) links l n D ⟨a,h⟩;exact⟨this.2,this.1⟩
theorem sT(s x:ByteArray):∀l,x∈gZ s l↔x=s∨x∈l
 | []=>by simp[gZ]
 |y::l=>by
  rw[gZ];split
  ·simp
  ·rw[List.mem_cons,sT s x l,List.mem_cons];constructor
   ·rintro(h|h|h)
    ·exact .inr (.inl h)
    ·exact .inl h
    ·exact .inr (.inr h)
   ·rintro(h|h|h)
    ·exact .inr (.inl h)
    ·exact .inl h
    ·exact .inr (.inr h)
theorem yC(x:ByteArray)(l:List ByteArray):x∈Q4 l↔x∈l:=by
 induction l with|nil=>simp[Q4]|cons y l a=>have:Q4 (y::l)=gZ y (Q4 l):=rfl;rw[this,sT,a,List.mem_cons]
theorem vD{D:Dk}(h:D.Ok){x:ByteArray}(hx:x∈D.names):x.size<=32:=by
 unfold Dk.names at hx;split at hx
 ·simp at hx
 ·rw[yC]at hx;obtain⟨y,a,rfl⟩:=List.mem_map.1 hx;have:=h.seenOk.good y a;unfold F6 at this;simp only[Bool.and_eq_true,decide_eq_true_eq]at this;exact this.1.2
def Dw(w:World)(b:Nat->Prop)(d:Nat)(L:List Ch.Ln)(a:List ByteArray)(D:Dk)(g:Nat)(c:Value)(wr:World):Prop:=∃j:Nat,j+g=a.length∧c=.int .i64 j∧A9 w b d (F7 L (a.take j) D) wr
theorem Ay{w r:World}{S SR:Nat->Prop}{U:Nat->Nat}{d p:Nat}{h:Dk}{X:Ix}{R:Option Addr}{T:Nat}(hm:vC w S SR U d p h X (.slice R X.links.length T) r)(hL:Ch.jx X.links)(h8:X.links.length<=8)(P:h.Ok)(hf:R7 h 800000004)(tab:∀W,d7 (fun b=>S b∨b=p) w W->Ch.jr W∧Ch.ia W)(x2 x3 x4 x5 x6 x7 x8 x9 aF aQ a5 be bf bg bh bi bj bk bl bm bn bo bp bq br bs bt bu bv bw bx bz bA bB bC bD bE bF bG bH bI bJ bK bL bM bN bO bP bQ bR bS bT bU bV bW bX bY bZ b0 b1 b2 b3 b4 b5 b6 b7 b8 b9 cb cd ce cf cg ch ci cj ck cl cm cn co cp cq cr cs ct cu cv cw cx cy cz cA cB cC cD cE cF aG aH aI aJ aK aL aM aN aO aP aR aS aT aU aV aW aX aY aZ a0 a6 a7 a8 a9 ba bb bc bd:Value):
  (seqSnd (seqSnd (seqSnd (seqSnd (seqSnd (seqSnd (seqSnd (seqSnd (seqSnd (seqSnd  (Tryz.f62.body.getD .skip))))))))))).wp prog (bodyPost prog Tryz.f62 (I3 w S SR U d p (F7 X.links h.names h,X,0))) {tmps:=#[pt p,.slice R X.links.length T,x2,x3,x4,x5,x6,x7,x8,x9,aF,aQ,a5,be,bf,bg,bh,bi,bj,bk,bl,bm,bn,bo,bp,bq,br,bs,bt,bu,bv,bw,bx,bz,bA,bB,bC,bD,bE,bF,bG,bH,bI,bJ,bK,bL,bM,bN,bO,bP,bQ,bR,bS,bT,bU,bV,bW,bX,bY,bZ,b0,b1,b2,b3,b4,b5,b6,b7,b8,b9,cb,cd,ce,cf,cg,ch,ci,cj,ck,cl,cm,cn,co,cp,cq,cr,cs,ct,cu,cv,cw,cx,cy,cz,cA,cB,cC,cD,cE,cF,aG,aH,aI,aJ,aK,aL,aM,aN,aO,aP,aR,aS,aT,aU,aV,aW,aX,aY,aZ,a0,a6,a7,a8,a9,ba,bb,bc,bd],defers:=[]} r:=by
 obtain⟨m,aE,aB,f1,f2,f3,C,i2,i3,i4⟩:=hm;obtain⟨Z,hZ⟩:=EX (I3 w S SR U d p (F7 X.links h.names h,X,0));have HZ:Hid (Z=I3 w S SR U d p (F7 X.links h.names h,X,0)):=hZ;rw[<-hZ];have aD:r.cell? ⟨p,0,none⟩=some (pt d):=g9 C.blk 0 _ rfl;have ae:=i6 C.blk;have an:¬m p:=fun z=>by have:=i3 p z;rw[C.r1]at this;simp at this
 have ai:Hid (∀W,d7 m r W->W.cell? ⟨p,0,none⟩=some (pt d)∧p<W.heap.size):=fun W t=>by have:=j9 C.blk t an;exact⟨g9 this 0 _ rfl,i6 this⟩
 obtain⟨L,aa⟩:=EX X.links;obtain⟨nl,af⟩:=EX X.links.length;have av:Hid (∀W,d7 m r W->Ch.S7 W R T L):=fun W t=>by rw[aa];obtain⟨a',c',hv,hl⟩:=Ch.cU C.links hL;simp only[Value.slice.injEq]at hv;obtain⟨rfl,-,rfl⟩:=hv;obtain⟨a2,c2,aq,aC⟩:=Ch.cU (C.links.turned t fun b B z=>by have:=i3 b z;omega) hL;simp only[Value.slice.injEq]at aq;obtain⟨rfl,-,rfl⟩:=aq;exact aC
 have aj:Hid (∀W,d7 m r W->Ch.jr W∧Ch.ia W):=fun W t=>tab W (i4.comp t fun i hi z=>z.elim id fun z=>(f2 i z).elim .inl fun z=>by omega)
 obtain⟨n,O⟩:=EX h.names;obtain⟨D,ab⟩:=EX n.length;have aw:Hid (∀x∈n,x.size<=32):=fun x hx=>vD P (O▸hx)
 have u:Hid (D=n.length∧D<=64):=⟨ab,by rw[ab,O];exact nW P⟩;have ay:Hid (CZ 36 #[pt d] r fun e w'=>∃a c,e=.returned (.slice a D c)∧Sl w' (fun b=>r.heap.size<=b∧b<w'.heap.size) 9 1 (.slice a D c) (n.map Value.string) D∧TF r w'):=i7 ((pM f1 P).mono fun e w'⟨v,a,b,c⟩=>by rw[<-O,<-ab]at b;obtain⟨ca,cc,rfl,-,-⟩:=b.value;exact⟨ca,cc,a,b.bound,c⟩);have au:Hid (∀W,TF r W->A9 W m d h W):=fun W t=>A9.stay (f1.turned t fun _ _ z=>z) fun b B=>LC (f3 b B) t.size
 have az:Hid (∀(D1:Dk)(nm:ByteArray)(w6 W:World),D1.Ok->R7 D1 900000000->A9 w6 m d D1 W->CZ 38 #[pt d,.string nm] W fun e w'=>(∃k:Nat,e=.returned (.int .i64 (k:Nat)))∧A9 w6 m d (D1.remove nm).1 w'):=fun D1 nm w6 W o f⟨Y,a1,a2,a3,a4⟩=>
  (sO a1 o (by have:=f.1;omega) nm).mono fun e w'⟨x1,x2⟩=>⟨⟨_,x1⟩,x2.next a2 a4⟩
 have ah:Hid (∀j,(F7 L (n.take j) h).Ok∧R7 (F7 L (n.take j) h) 900000000):=fun j=>by have h1:=Ax (links:=L) (l:=n.take j) P hf;exact⟨h1.1,h1.2.mono (by have:=u.o;rw[List.length_take];omega)⟩
 have aA:Hid (∀b,m b->b<r.heap.size):=f3;have ar:Hid (∀s W,TF r s->A9 s m d (F7 L n h) W->I3 w S SR U d p (F7 X.links h.names h,X,0) (.returned (.int .i64 0)) W):=fun s W J⟨Y,N,g2,g3,g4⟩=>by
  rw[aa,O]at N;have z1:=J.size;have z0:=i4.size;refine⟨rfl,Y,aE,_,aB,N,fun b B=>?_,g3,(C.turned J fun _ _ z=>z).turned g4 fun b B z=>B (i3 b z),i2,fun b B=>?_,(i4.trans J fun _ _ z=>z.elim).comp g4 fun i hi z=>z.elim id fun z=>(f2 i z).elim .inl fun z=>by omega⟩
  ·rcases g2 b B with z|z
   ·exact f2 b z
   ·right;omega
  ·rcases g2 b B with z|z
   ·exact i3 b z
   ·apply LK;intro y;have:=C.bnd b y;omega
 have ax:Hid (L.length=nl):=i7 (by rw[aa,af]);rw[<-af];clear hZ an f1 f2 f3 C i2 i3 i4 hL h8 P hf tab aa af O ab;obtain⟨Q,hQ⟩:=EX (bodyPost prog Tryz.f62 Z);rw[<-hQ];dsimp only[Tryz.f62,seqSnd,Option.getD];rw[hQ];clear hQ;go_wp2_with(go_fit ay.o;rintro e s⟨na,nc,rfl,ac,J⟩;have V:=i7 (And.intro ac J);clear ac J);have B0:Hid (Dw s m d L n h D (.int .i64 0) s):=⟨0,by rw[u.o.1,Nat.zero_add],rfl,au.o s V.o.2⟩;go_loopg[105] D (fun g iv wr=>Dw s m d L n h g iv wr)
 case atStart=>exact B0.o
 case round=>
  clear B0 aD ae;obtain⟨j,al,rfl,ad⟩:=hrel;have G:Hid (j+gk=n.length):=al;have F:Hid (A9 s m d (F7 L (n.take j) h) wr):=ad;have TR:Hid (d7 m s wr):=i7 (by obtain⟨_,_,_,_,t⟩:=ad;exact t);have H:Hid (d7 m r wr):=i7 ((V.o.2.mono fun _ _ z=>z.elim).tr TR.o);clear al ad;by_cases ae:j<D
  ·obtain⟨x,hx⟩:∃x,n[j]?=some x:=⟨_,LB (by rw[<-u.o.1];exact ae)⟩;obtain⟨N,o1,k1,ap,ac,-,-,ak,-,am⟩:=V.o.1.opens (by omega);simp only[Value.slice.injEq]at ap;obtain⟨rfl,-,-⟩:=ap;have c0:wr.cell? ⟨N,o1+j,none⟩=some (.string x):=m6 (by rw[ak j (by omega)];rw[List.getElem?_map,hx];rfl) TR.o (fun z=>by have:=aA.o _ z;omega);have cG:N<wr.heap.size:=LC am TR.o.size;obtain⟨cH,cI⟩:=ai.o wr H.o;have HX:Hid (n[j]?=some x∧x.size<=32):=⟨hx,aw.o x (LI hx)⟩;have K:Hid (CZ 138 #[.string x] wr (RT (.tuple #[.int .i64 (Ch.H7 x).1,.bool (Ch.H7 x).2]) wr)):=Ch.qI x wr (aj.o wr H.o).1 (aj.o wr H.o).2 (by have:=HX.o.2;omega);have HW:Hid (wrap64 ((j:Int)+1)=((j+1:Nat):Int)):=i7 (by have:=u.o;simp only[wrap64];omega);have A:=mF L n j x h hx;have ag:Hid (∀W b k,d7 m r W->W.cell? ⟨b,0,none⟩=some (.int .i64 k)->CZ 139 #[.slice R nl T,.func (.func 140) #[] #[pt b]] W (RT (.bool (Ch.H2 L k)) W)):=fun W b k t hc=>by have:=Ch.mX R T b L k W (av.o W t) hc;rw[ax.o]at this;exact this
   clear hx ak ac am;obtain⟨k,ok,ao⟩:∃k ok,Ch.H7 x=(k,ok):=⟨_,_,rfl⟩;rw[ao]at K A;dsimp only at K A;have MV:Hid (∀W,TF wr W->A9 s m d (F7 L (n.take j) h) W):=fun W t=>by obtain⟨Y,a1,a2,a3,a4⟩:=F.o;exact⟨Y,a1.turned t fun _ _ z=>z,a2,fun b B=>LC (a3 b B) t.size,a4.trans t fun _ _ z=>z.elim⟩
   clear ao;cases ok with
   |false=>
    rw[if_neg (by simp)]at A;have M:=i7 A;clear A;go_wp2_with(go_fit K.o;rintro e w2⟨rfl,q⟩;replace q:=i7 q);go_roundg (gk-1)
    case measure=>have:=G.o;have:=u.o;omega
    case rel=>exact⟨j+1,by have:=G.o;have:=u.o;omega,by rw[HW.o],by rw[M.o];exact MV.o _ (q.o.new _)⟩
   |true=>
    cases I:Ch.H2 L k with
    |true=>
     rw[if_neg (by rw[I];simp)]at A;have M:=i7 A;have HH:Hid (Ch.H2 L k=true):=I;clear A I
     go_wp2_with(first
      |(go_fit K.o;rintro e w2⟨rfl,q⟩;replace q:=i7 q)
      |(go_fit(ag.o _ _ k (H.o.trans (q.o.new _) fun _ _ z=>z.elim) (g9 (i8 w2 _) 0 _ rfl));rintro e w3⟨rfl,E⟩;rw[HH.o];replace E:=i7 E))
     go_roundg (gk-1)
     case measure=>have:=G.o;have:=u.o;omega
     case rel=>exact⟨j+1,by have:=G.o;have:=u.o;omega,by rw[HW.o],by rw[M.o];exact MV.o _ ((q.o.new _).tr E.o)⟩
    |false=>
     rw[if_pos ⟨rfl,I⟩]at A;have M:=i7 A;have HH:Hid (Ch.H2 L k=false):=I;clear A I
     go_wp2_with(first
      |(go_fit K.o;rintro e w2⟨rfl,q⟩;replace q:=i7 q)
      |(go_fit(ag.o _ _ k (H.o.trans (q.o.new _) fun _ _ z=>z.elim) (g9 (i8 w2 _) 0 _ rfl));rintro e w3⟨rfl,E⟩;rw[HH.o];obtain⟨cJ,cK⟩:=ai.o w3 (H.o.trans ((q.o.new _).tr E) fun _ _ z=>z.elim);replace E:=i7 E)
      |(go_fit(az.o _ x s _ (ah.o j).1 (ah.o j).2 (MV.o _ ((q.o.new _).tr E.o)));rintro e w4⟨⟨r4,rfl⟩,f4⟩;replace f4:=i7 f4))
     go_roundg (gk-1)
     case measure=>have:=G.o;have:=u.o;omega
     case rel=>exact⟨j+1,by have:=G.o;have:=u.o;omega,by rw[HW.o],by rw[M.o];exact f4.o⟩
  ·have hj:j=D:=by have:=G.o;have:=u.o;omega
   have hF:=F.o;rw[hj,u.o.1,List.take_length]at hF;have FF:=i7 (ar.o s wr V.o.2 hF);clear hF hj;go_wp2;rw[HZ.o];exact FF.o
theorem BR{w:World}{S SL SG SR:Nat->Prop}{rx:Nat->Nat}{d p:Nat}{lv gv:Value}{D:Dk}{x:Ix}{la ga ra:Option Addr}{lc gc rc:Nat}{links:List Ch.Ln}{graphs:List Gr}{ak:List Value}{g:Gr}(h:sS w S rx d p lv gv D x SL SG SR la lc links ga gc graphs ak ra rc g)(he:(K9 g).2=0)(ar:(L4 (r7 x links g)).2=0){D1 D2 C:Dk}(h1:D3 D graphT (K9 g).1 (Ch.nameS (Ch.iy x.links))=(D1,0))(h2:D3 D1 chainT (L4 (r7 x links g)).1 chainB=(D2,0))(h3:D2.syncNames=(C,0)):
  CZ 62 #[pt p,.slice la links.length lc,.slice ga graphs.length gc,xG ra rc g] w (I3 w S SR rx d p (dG D x links graphs g)):=by
 rw[pO he ar ((jJ h1 h2).trans h3)];obtain⟨Z,hZ⟩:=EX (I3 w S SR rx d p (F7 (r7 x links g) C.names C,⟨r7 x links g,graphs++[g]⟩,0));have HZ:Hid (Z=I3 w S SR rx d p (F7 (r7 x links g) C.names C,⟨r7 x links g,graphs++[g]⟩,0)):=hZ;rw[<-hZ];obtain⟨l,hV⟩:=EX (w.alloc (.cells #[.int .i64 g.base,.int .i64 g.h,.int .i64 g.p,.int .i64 g.m,.int .u32 g.seed,.slice ra g.rows.length rc] 123));have aS:Hid (l=w.alloc (.cells #[.int .i64 g.base,.int .i64 g.h,.int .i64 g.p,.int .i64 g.m,.int .u32 g.seed,.slice ra g.rows.length rc] 123)):=hV;have tV:TF w l:=by rw[hV];exact TA
 have N:l.heap[w.heap.size]?=some (.cells #[.int .i64 g.base,.int .i64 g.h,.int .i64 g.p,.int .i64 g.m,.int .u32 g.seed,.slice ra g.rows.length rc] 123):=by rw[hV];exact i8 _ _
 have bq:=yA g;have aE:Hid (CZ 132 #[.agg #[.int .i64 g.base,.int .i64 g.h,.int .i64 g.p,.int .i64 g.m,.int .u32 g.seed,.slice ra g.rows.length rc]] l (RT (.tuple #[.string (K9 g).1,.int .i64 0]) l)):=by have:=uJ SR ra rc g l (h.rows.turned tV fun _ _ z=>z) h.gok (jd he).1 (jd he).2;rw[pu,he]at this;exact this
 have c0:l.cell? ⟨w.heap.size,0,none⟩=some (.int .i64 g.base):=g9 N 0 _ rfl;have c1:l.cell? ⟨w.heap.size,1,none⟩=some (.int .i64 g.h):=g9 N 1 _ rfl;have c2:l.cell? ⟨w.heap.size,2,none⟩=some (.int .i64 g.p):=g9 N 2 _ rfl;have c3:l.cell? ⟨w.heap.size,3,none⟩=some (.int .i64 g.m):=g9 N 3 _ rfl;have c4:l.cell? ⟨w.heap.size,4,none⟩=some (.int .u32 g.seed):=g9 N 4 _ rfl;have Y:l.cell? ⟨w.heap.size,5,none⟩=some (.slice ra g.rows.length rc):=g9 N 5 _ rfl;have aY:=i6 N;obtain⟨nx,au⟩:=EX (Ch.iy x.links);obtain⟨T,hT⟩:=EX ((K9 g).1);obtain⟨I,aw⟩:=EX (Crc.sum (p6 T));have ag:r7 x links g=links++[(nx,(g.rows.length:Int),I)]:=by unfold r7;rw[<-au,<-hT,<-aw]
 rw[<-hT]at aE;obtain⟨xa,xc,bn,aX⟩:=Ch.cU h.ix.links (jx.of h.ixok);subst bn;have p1:w.cell? ⟨p,1,none⟩=some (.slice xa x.links.length xc):=g9 h.ix.blk 1 _ rfl;have a0:=m6 p1 tV id;have be:Hid (∀W,TF l W->W.cell? ⟨p,1,none⟩=some (.slice xa x.links.length xc)∧p<W.heap.size):=fun W t=>⟨m6 a0 t id,LC (i6 h.ix.blk) (LR tV.size t.size)⟩
 have bd:Hid (∀W,TF l W->CZ 133 #[.slice xa x.links.length xc] W (RT (.int .i64 nx) l)):=fun W t=>by rw[au];exact(Ch.zT xa xc x.links W ((aX.turned tV).turned t) (by have:=h.ixok.many;omega) h.low).mono fun e w'⟨a,b⟩=>⟨a,t.tr b⟩
 obtain⟨r,al⟩:=EX links.length;have aD:Hid (∀W,TF l W->CZ 134 #[.slice la r lc] W fun e w'=>∃a c,e=.returned (.slice a r c)∧Sl w' (fun b=>l.heap.size<=b) 120 3 (.slice a r c) (Ch.lcells links) r∧TF l w'∧TF W w'):=fun W t=>by
  rw[al];have hl:=(h.ls.turned tV fun _ _ z=>z).turned t fun _ _ z=>z
  refine(qR W (fun w' t'=>(hl.turned t' fun _ _ z=>z).src underlying113 (vz _)) (oQ hl) (by have:=h.lmany;omega)).mono fun e w'⟨v,a,b,c⟩=>?_
  obtain⟨ca,cc,rfl,-,-⟩:=b.value;exact⟨ca,cc,a,b.widen fun x hx=>LR t.size hx,t.tr c,c⟩
 have aH:Hid (∀W b,TF l W->W.heap[b]?=some (.cells #[.string T] 9)->CZ 124 #[.slice (some ⟨b,0,none⟩) 1 1] W fun e w'=>e=.returned (.int .u32 I)∧TF l w'∧TF W w'):=fun W b t n=>by rw[aw];exact(kO b 0 1 T W (g9 n 0 _ rfl) (i6 n) (by rw[hT];omega)).mono fun e w'⟨a,q⟩=>⟨a,t.tr q,q⟩
 have TV:Hid (TF w l∧w.heap.size<l.heap.size):=⟨tV,aY⟩;have aI:Hid (∀W(Q:Nat->Prop),d7 Q l W->¬Q w.heap.size->W.cell? ⟨w.heap.size,5,none⟩=some (.slice ra g.rows.length rc)∧w.heap.size<W.heap.size):=fun W Q t z=>⟨m6 Y t z,LC aY t.size⟩
 have HH:=i7 h;obtain⟨K,hK⟩:=EX g.rows.length;rw[<-hK]at Y aI aE ag aS;have ae:Hid (r7 x links g=links++[(nx,(K:Int),I)]∧r=links.length∧K=g.rows.length):=⟨ag,al,hK⟩;have m1:Hid (r+1<=maxLen∧(r+1)*24<=140737488355328):=i7 (by have:=h.lmany;simp only[maxLen];omega);rw[<-al];dsimp only[xG];rw[<-hK];obtain⟨E,af⟩:=EX graphs.length;rw[<-af];have bo:=Ch.jA x.links h.low;have aB:Hid (∀(W:World)(S':Nat->Prop)(a:Option Addr)(c:Nat),Sl W S' 120 3 (.slice a (r+1) c) (Ch.lcells links++[.int .i64 nx,.int .i64 (K:Int),.int .u32 I]) (r+1)->CZ 135 #[.slice a (r+1) c] W (RT (.tuple #[.string (L4 (r7 x links g)).1,.int .i64 ((L4 (r7 x links g)).2:Nat)]) W)):=fun W S' a c hs=>by
  have ah:(r7 x links g).length=r+1:=by rw[ag,al];simp
  have aJ:Ch.lcells (r7 x links g)=Ch.lcells links++[.int .i64 nx,.int .i64 (K:Int),.int .u32 I]:=by rw[ag,mE];rfl
  rw[<-aJ,<-ah]at hs;obtain⟨a',c',hv,hl⟩:=Ch.cU hs fun y hy=>by
   rw[ag]at hy;rcases List.mem_append.1 hy with q|q
   ·exact h.lok y q
   ·rw[List.mem_singleton]at q;subst q;have:=h.gfew;refine⟨⟨by simp only;omega,by simp only;omega⟩,⟨by simp only;omega,by simp only;omega⟩,?_⟩;simp only;rw[aw];exact O0 _
  simp only[Value.slice.injEq]at hv;obtain⟨rfl,-,rfl⟩:=hv;have:=Ch.uo a c (r7 x links g) W hl;rw[wG,ah]at this;exact this
 have aM:Hid (Ch.jx (r7 x links g)∧(r7 x links g).length<=8):=i7 (BQ h ar);obtain⟨k2,aW⟩:=EX ((L4 (r7 x links g)).2);rw[<-aW]at aB ar;subst ar;obtain⟨az,ay⟩:=EX ((L4 (r7 x links g)).1);rw[<-ay]at aB;have av:¬S p:=fun z=>by have:=h.dis p z;rw[h.ix.r1]at this;simp at this
 have aG:Hid (∀j W,TF w j->d7 S j W->W.cell? ⟨p,0,none⟩=some (pt d)∧p<W.heap.size):=fun j W t A=>by have:=j9 (j9 h.ix.blk t id) A av;exact⟨g9 this 0 _ rfl,i6 this⟩
 have aV:eO nx:=⟨by omega,by omega⟩;have bh:Hid (∀j W,TF w j->d7 S j W->Ch.jr W∧Ch.ia W):=fun j W t A=>h.tab W (t.comp A fun i _ z=>z.elim False.elim .inl)
 have bc:Hid (∀j W D',TF w j->A9 j S d D' W->CZ 128 #[.int .i64 nx] W fun e w'=>e=.returned (.string (Ch.nameS nx))∧A9 j S d D' w'):=fun j W D' t f=>by obtain⟨S1,L,G,R,O⟩:=f;exact(Ch.qG nx aV W (bh.o j W t O).1).mono fun e w'⟨x1,x2⟩=>⟨x1,S1,L.turned x2 fun _ _ z=>z,G,fun b n=>LC (R b n) x2.size,O.trans x2 fun _ _ z=>z.elim⟩
 have a6:Hid (∀j,TF w j->A9 j S d D j):=fun j t=>A9.stay (h.disk.turned t fun _ _ z=>z) fun b n=>LC (h.sb b n) t.size
 have aA:Hid (∀j W,TF w j->d7 S j W->W.heap[p]?=some (.cells #[pt d,.slice xa x.links.length xc,gv] 116)):=fun j W t A=>j9 (j9 h.ix.blk t id) A av
 have aT:Hid (∀(D1 D5:Dk)(tmp tx name:ByteArray)(j W:World),TF w j->D1.Ok->R7 D1 900000000->tx.size<=1099511627776->D3 D1 tmp tx name=(D5,0)->A9 j S d D1 W->CZ 136 #[pt p,.string tmp,.string tx,.string name] W fun e w'=>e=.returned (.int .i64 0)∧A9 j S d D5 w'):=fun D1 D5 tmp tx name j W t o f z hX⟨S1,L,G,R,O⟩=>by
  have bp:¬S1 p:=fun q=>by
   rcases G p q with y|y
   ·exact av y
   ·have:=i6 h.ix.blk;have:=t.size;omega
  exact(sQ L o f (aA.o j W t O) bp R tmp tx name z hX).mono fun e w'⟨x1,x2⟩=>⟨x1,x2.next G O⟩
 have bt:Hid (∀(D1:Dk)(nm:ByteArray)(j W:World),TF w j->D1.Ok->R7 D1 900000000->A9 j S d D1 W->CZ 38 #[pt d,.string nm] W fun e w'=>(∃k:Nat,e=.returned (.int .i64 k))∧A9 j S d (D1.remove nm).1 w'):=fun D1 nm j W t o f⟨S1,L,G,R,O⟩=>
  (sO L o (by have:=f.1;omega) nm).mono fun e w'⟨x1,x2⟩=>⟨⟨_,x1⟩,x2.next G O⟩
 have aR:Hid (T.size<=1099511627776∧az.size<=1099511627776):=⟨by rw[hT];omega,by rw[ay];have:=jK (r7 x links g);omega⟩;have aP:Hid (D.Ok∧R7 D 800000000):=⟨h.ok,h.few⟩;have bg:Hid (∀(D1:Dk)(j W:World),TF w j->D1.Ok->A9 j S d D1 W->CZ 74 #[pt d] W fun e w'=>e=.returned (.int .i64 D1.syncNames.2)∧A9 j S d D1.syncNames.1 w'):=fun D1 j W t o⟨S1,L,G,R,O⟩=>
  (kw L o).mono fun e w'⟨x1,x2⟩=>⟨x1,x2.next G O⟩
 rw[<-hT,<-au]at h1;rw[<-ay]at h2;have bi:Hid (D3 D ⟨#[103,114,97,112,104,46,116,109,112]⟩ T (Ch.nameS nx)=(D1,0)):=h1;have ap:Hid (D1.Ok∧R7 D1 800000002):=by have:=od h.ok h.few graphT T (Ch.nameS nx);rw[h1]at this;exact this
 have bj:Hid (D3 D1 ⟨#[99,104,97,105,110,46,116,109,112]⟩ az ⟨#[99,104,97,105,110]⟩=(D2,0)):=h2;have aF:Hid (D2.Ok∧R7 D2 800000004):=by have:=od ap.o.1 ap.o.2 chainT az chainB;rw[h2]at this;exact this
 have bk:Hid (D2.syncNames=(C,0)):=h3;have aO:Hid (C.Ok∧R7 C 800000004):=by have L:=aF.o.1.syncNamesOk;have G:=aF.o.2.syncNames;rw[h3]at L G;exact⟨L,G⟩
 have bf:Hid (∀j wc W,TF w j->A9 j S d C wc->TF wc W->Sl W SG 123 6 (.slice ga E gc) ak E):=fun j wc W t f A=>by obtain⟨_,_,_,_,f4⟩:=f;rw[af];exact((h.gs.turned t fun _ _ z=>z).turned f4 fun b n=>(h.sg b n).1).turned A fun _ _ z=>z
 have ba:Hid (∀u∈ak,u.oneCell'=true):=vA h.gs.1 h.gat;have a7:Hid (ga=none->E=0):=fun q=>by subst q;rw[af];exact oQ h.gs rfl
 have m2:Hid (E+1<=maxLen∧(E+1)*64<=140737488355328∧E<=8):=i7 (by have:=h.gmany;simp only[maxLen];omega);have aC:Hid (∀j wc W,TF w j->A9 j S d C wc->TF wc W->CZ 137 #[.slice ga E gc] W fun e w'=>∃a c,e=.returned (.slice a E c)∧Sl w' (fun b=>wc.heap.size<=b∧b<w'.heap.size) 123 6 (.slice a E c) ak E∧TF wc w'∧TF W w'):=fun j wc W t f A=>by
  refine(oD W (fun w' t'=>((bf.o j wc W t f A).turned t' fun _ _ z=>z).src underlying114 ba.o) a7.o (by have:=m2.o;omega)).mono fun e w'⟨v,a,b,c⟩=>?_
  obtain⟨ca,cc,rfl,-,-⟩:=b.value;exact⟨ca,cc,a,b.bound.widen fun x hx=>⟨LR A.size hx.1,hx.2⟩,A.tr c,c⟩
 have aQ:Hid (∀j wc W,TF w j->A9 j S d C wc->d7 (fun b=>wc.heap.size<=b) wc W->W.cell? ⟨p,1,none⟩=some (.slice xa x.links.length xc)∧W.frozen? ⟨p,1,none⟩=false∧W.cell? ⟨p,2,none⟩=some gv∧W.frozen? ⟨p,2,none⟩=false∧p<W.heap.size):=fun j wc W t f A=>by obtain⟨_,_,_,_,f4⟩:=f;have n:=j9 (aA.o j wc t f4) A (by have:=i6 (aA.o j wc t f4);omega);exact⟨g9 n 1 _ rfl,j7 n 1,g9 n 2 _ rfl,j7 n 2,i6 n⟩
 have bb:Hid (∀P j a c,Sl P (fun b=>l.heap.size<=b) 120 3 (.slice a (r+1) c) (Ch.lcells links++[.int .i64 nx,.int .i64 (K:Int),.int .u32 I]) (r+1)->TF P j->Sl j (fun b=>l.heap.size<=b) 120 3 (.slice a (r+1) c) (Ch.lcells (r7 x links g)) (r7 x links g).length):=fun P j a c s t=>by
  have ah:(r7 x links g).length=r+1:=by rw[ae.o.1,ae.o.2.1];simp
  have aJ:Ch.lcells (r7 x links g)=Ch.lcells links++[.int .i64 nx,.int .i64 (K:Int),.int .u32 I]:=by rw[ae.o.1,mE];rfl
  rw[ah,aJ];exact s.turned t fun _ _ z=>z
 have aN:Hid (∀j wc W J a5 Y a9 c9 S',TF w j->Sl j (fun b=>l.heap.size<=b) 120 3 (.slice a5 (r+1) Y) (Ch.lcells (r7 x links g)) (r7 x links g).length->A9 j S d C wc->TF wc W->(∀b,S' b->wc.heap.size<=b)->d7 S' W J->
   Sl J (F2 S' W) 123 6 (.slice a9 (E+1) c9) (ak++[.int .i64 g.base,.int .i64 g.h,.int .i64 g.p,.int .i64 g.m,.int .u32 g.seed,.slice ra K rc]) (E+1)->
   vC w S SR rx d p C ⟨r7 x links g,graphs++[g]⟩ (.slice a5 (r+1) Y) ((J.setCell ⟨p,1,none⟩ (.slice a5 (r+1) Y)).setCell ⟨p,2,none⟩ (.slice a9 (E+1) c9))):=fun j wc W J a5 Y a9 c9 S' t s f A hS t9 s9=>by
  rw[ae.o.2.2,af]at s9;refine Ed h (nv:=l.heap.size) (by have:=TV.o.2;omega) s t f (S':=fun b=>F2 S' W b∧b<J.heap.size) ?_ (fun b n=>⟨?_,n.2⟩) (A.comp t9 fun i hi z=>z.elim False.elim fun z=>hS i z)
  ·rw[af];exact s9.bound
  ·exact n.1.elim (hS b) fun z=>LR A.size z
 have aU:Hid (∀j wc W,d7 (fun b=>l.heap.size<=b) l j->A9 j S d C wc->d7 (fun b=>wc.heap.size<=b) wc W->W.heap[w.heap.size]?=some (.cells #[.int .i64 g.base,.int .i64 g.h,.int .i64 g.p,.int .i64 g.m,.int .u32 g.seed,.slice ra K rc] 123)):=fun j wc W t f A=>by obtain⟨_,_,_,_,f4⟩:=f;have z1:=i6 N;have z2:=t.size;rw[hK];exact j9 (j9 (j9 N t (by omega)) f4 (fun z=>by have:=h.sb _ z;omega)) A (by have:=f4.size;omega)
 clear ay av aV h1 h2 h3 af;clear bo aW;clear hZ hV tV N h he bq au hT aw ag aX p1 a0 al hK;go_enter func62,ntmps62;go_wp2_with fail;rw[<-aS.o];go_wp2_with(first|(go_fit aE.o;rintro e w1⟨rfl,q1⟩;obtain⟨p1,p2⟩:=be.o w1 q1;replace q1:=i7 q1)|(go_fit(bd.o _ q1.o);rintro e w2⟨rfl,q2⟩;replace q2:=i7 q2));have q0:¬l.heap.size<=w.heap.size:=by have:=TV.o.2;omega
 have aq:Hid (∀W,TF l W->W.cell? ⟨w.heap.size,5,none⟩=some (.slice ra K rc)):=fun W t=>(aI.o W _ t id).1
 have bl:Hid (∀W,d7 (fun b=>l.heap.size<=b) l W->W.cell? ⟨w.heap.size,5,none⟩=some (.slice ra K rc)):=fun W t=>(aI.o W _ t (by have:=TV.o.2;omega)).1
 clear c0 c1 c2 c3 c4 Y p1 p2
 go_region_held3 (fun W=>W.cell? ⟨w.heap.size,5,none⟩=some (.slice ra K rc))
  (first|(exact aq.o _ q2.o.draw)|(exact aq.o _ ((q2.o.new _).draw))|(exact aq.o _ (by assumption))|(exact bl.o _ (by assumption))|(exact aq.o _ ((by assumption:TF l _).new _))|go_keep)
  (first
   |(go_fit(aD.o w2.drew q2.o.draw);rintro e3 M⟨R,c3,rfl,H,ai,aj⟩;replace H:=i7 H;clear aj)
   |(go_fit(aD.o (w2.alloc (.cells #[.string T] 9)).drew ((q2.o.new _).draw));rintro e3 M⟨R,c3,rfl,H,ai,aj⟩;have br:=j9 (w:=(w2.alloc (.cells #[.string T] 9)).drew) (i8 w2 _) aj id;replace H:=i7 H;clear aj)
   |(go_fit(aD.o w4 an);rintro e3 M⟨R,c3,rfl,H,ai,aj⟩;replace H:=i7 H;clear aj)
   |(go_fit(aH.o (M.alloc (.cells #[.string T] 9)) M.heap.size (ai.new _) (i8 M _));rintro e4 w4⟨rfl,an,ad⟩;have aZ:=i7 (H.o.turned ((d7.alloc (fun _=>False) M _).tr ad) fun _ _ z=>z);clear ad)
   |(go_fit(aH.o M w2.heap.size ai br);rintro e4 w4⟨rfl,an,ad⟩;have aZ:=i7 (H.o.turned ad fun _ _ z=>z);clear ad)
   |(go_fit(aH.o (w2.alloc (.cells #[.string T] 9)).drew w2.heap.size ((q2.o.new _).draw) (i8 w2 _));rintro e4 w4⟨rfl,an,ad⟩;clear ad)
   |(refine o5 (by rfl) _ _ 113 113 (by rfl) (aZ.o.turned (T:=fun _=>False) (d7.alloc _ w4 (.cells #[.int .i64 nx,.int .i64 (K:Int),.int .u32 I] 120)) fun _ _ z=>z) underlying113 infoC120 rfl (by decide) (by rfl) (.slice (some ⟨w4.heap.size,0,none⟩) 1 1) (by rfl) (Aw (.int .i64 nx) (.int .i64 (K:Int)) (.int .u32 I) (by simp[Value.oneCell']) w4).1 m1.o.1 m1.o.2 ?_;intro v5 P aa ao;obtain⟨a5,bm,rfl,-,-⟩:=aa.value;have T5:d7 (fun b=>l.heap.size<=b) l P:=(an.new _).comp ao (fun i _ z=>z.elim False.elim id);have Y5:=i7 (aa.widen (T:=fun b=>l.heap.size<=b) fun b n=>n.elim id fun z=>LR (an.new _).size z);clear aa ao)
   |(refine o5 (by rfl) _ _ 113 113 (by rfl) (H.o.turned (T:=fun _=>False) (d7.alloc _ M (.cells #[.int .i64 nx,.int .i64 (K:Int),.int .u32 I] 120)) fun _ _ z=>z) underlying113 infoC120 rfl (by decide) (by rfl) (.slice (some ⟨M.heap.size,0,none⟩) 1 1) (by rfl) (Aw (.int .i64 nx) (.int .i64 (K:Int)) (.int .u32 I) (by simp[Value.oneCell']) M).1 m1.o.1 m1.o.2 ?_;intro v5 P aa ao;obtain⟨a5,bm,rfl,-,-⟩:=aa.value;have T5:d7 (fun b=>l.heap.size<=b) l P:=(ai.new _).comp ao (fun i _ z=>z.elim False.elim id);have Y5:=i7 (aa.widen (T:=fun b=>l.heap.size<=b) fun b n=>n.elim id fun z=>LR (ai.new _).size z);clear aa ao))
 all_goals
  go_wp2_with(first
   |(go_fit(aB.o P _ _ _ Y5.o);rintro e6 j⟨rfl,ax⟩;have B:TF w j:=(TV.o.1.comp (T5.trans ax fun _ _ z=>z.elim) fun i hi z=>z.elim id fun z=>by have:=TV.o.2;omega);have f6:=i7 (a6.o j B);have s6:=i7 (bb.o P j _ _ Y5.o ax);have v6:Hid (d7 (fun b=>l.heap.size<=b) l j):=i7 (T5.trans ax fun _ _ z=>z.elim);clear ax T5)
   |(go_fit(bc.o j j D B f6.o);rintro e7 w7⟨rfl,f7⟩;replace f7:=i7 f7)
   |(go_fit(aT.o D D1 ⟨#[103,114,97,112,104,46,116,109,112]⟩ T (Ch.nameS nx) j w7 B aP.o.1 (aP.o.2.mono (by omega)) aR.o.1 bi.o f7.o);rintro ea wa⟨rfl,fa⟩;obtain⟨aK,aL⟩:=aG.o j wa B (by obtain⟨_,_,_,_,t⟩:=fa;exact t);replace fa:=i7 fa)
   |(go_fit(aT.o D1 D2 ⟨#[99,104,97,105,110,46,116,109,112]⟩ az ⟨#[99,104,97,105,110]⟩ j wa B ap.o.1 (ap.o.2.mono (by omega)) aR.o.2 bj.o fa.o);rintro eb wb⟨rfl,fb⟩;obtain⟨aK,aL⟩:=aG.o j wb B (by obtain⟨_,_,_,_,t⟩:=fb;exact t);replace fb:=i7 fb)
   |(go_fit(bg.o D2 j wb B aF.o.1 fb.o);rintro ec wc⟨rfl,fc⟩;rw[bk.o]at fc ⊢;obtain⟨aK,aL⟩:=aG.o j wc B (by obtain⟨_,_,_,_,t⟩:=fc;exact t);replace fc:=i7 fc))
  have U:=aU.o j wc wc v6.o fc.o TQ;have k0:wc.cell? ⟨w.heap.size,0,none⟩=some (.int .i64 g.base):=g9 U 0 _ rfl;have k1:wc.cell? ⟨w.heap.size,1,none⟩=some (.int .i64 g.h):=g9 U 1 _ rfl;have k2:wc.cell? ⟨w.heap.size,2,none⟩=some (.int .i64 g.p):=g9 U 2 _ rfl;have k3:wc.cell? ⟨w.heap.size,3,none⟩=some (.int .i64 g.m):=g9 U 3 _ rfl;have k4:wc.cell? ⟨w.heap.size,4,none⟩=some (.int .u32 g.seed):=g9 U 4 _ rfl;have k5:wc.cell? ⟨w.heap.size,5,none⟩=some (.slice ra K rc):=g9 U 5 _ rfl;have bv:=i6 U;clear U aK aL
  go_region_law ((first
   |(go_simp;go_at_call 137;(first|(with_reducible refine(aC.o j wc wc B fc.o TQ).mono ?_)|(with_reducible refine(aC.o j wc _ B fc.o TD).mono ?_));rintro e F⟨a8,c8,rfl,am,t8,-⟩;have Y8:=i7 (And.intro am t8);have V:=aU.o j wc F v6.o fc.o (t8.mono fun _ _ z=>z.elim);have j0:F.cell? ⟨w.heap.size,0,none⟩=some (.int .i64 g.base):=g9 V 0 _ rfl;have j1:F.cell? ⟨w.heap.size,1,none⟩=some (.int .i64 g.h):=g9 V 1 _ rfl;have j2:F.cell? ⟨w.heap.size,2,none⟩=some (.int .i64 g.p):=g9 V 2 _ rfl;have j3:F.cell? ⟨w.heap.size,3,none⟩=some (.int .i64 g.m):=g9 V 3 _ rfl;have j4:F.cell? ⟨w.heap.size,4,none⟩=some (.int .u32 g.seed):=g9 V 4 _ rfl;have j5:F.cell? ⟨w.heap.size,5,none⟩=some (.slice ra K rc):=g9 V 5 _ rfl;have bu:=i6 V;clear am t8 V)
   |(go_simp;go_fit(aC.o j wc (wc.alloc (.cells #[.int .i64 g.base,.int .i64 g.h,.int .i64 g.p,.int .i64 g.m,.int .u32 g.seed,.slice ra K rc] 123)).drew B fc.o (TA.draw));rintro e F⟨a8,c8,rfl,am,t8,u8⟩;have Y8:=i7 (And.intro am t8);have bs:Hid (F.heap[wc.heap.size]?=some (.cells #[.int .i64 g.base,.int .i64 g.h,.int .i64 g.p,.int .i64 g.m,.int .u32 g.seed,.slice ra K rc] 123)):=i7 (j9 (w:=(wc.alloc (.cells #[.int .i64 g.base,.int .i64 g.h,.int .i64 g.p,.int .i64 g.m,.int .u32 g.seed,.slice ra K rc] 123)).drew) (i8 wc _) u8 id);clear am t8 u8)
   |(refine o5 (by rfl) _ _ 114 114 (by rfl) (Y8.o.1.turned (T:=fun _=>False) (d7.alloc _ F (.cells #[.int .i64 g.base,.int .i64 g.h,.int .i64 g.p,.int .i64 g.m,.int .u32 g.seed,.slice ra K rc] 123)) fun _ _ z=>z) underlying114 infoC123 rfl (by decide) (by rfl) (.slice (some ⟨F.heap.size,0,none⟩) 1 1) (by rfl) (Ec [.int .i64 g.base,.int .i64 g.h,.int .i64 g.p,.int .i64 g.m,.int .u32 g.seed,.slice ra K rc] rfl (by simp[Value.oneCell']) F) m2.o.1 m2.o.2.1 ?_;intro v9 J ab ac;obtain⟨a9,c9,rfl,-,-⟩:=ab.value;obtain⟨y1,y2,y3,y4,y5⟩:=aQ.o j wc J B fc.o ((Y8.o.2.new _).comp ac fun i _ z=>z.elim False.elim fun z=>z.1);have Y9:=i7 (aN.o j wc _ J _ _ _ _ _ B s6.o fc.o (Y8.o.2.new _) (fun b n=>n.1) ac ab);clear ab ac)
   |(refine o5 (by rfl) _ _ 114 114 (by rfl) Y8.o.1 underlying114 infoC123 rfl (by decide) (by rfl) (.slice (some ⟨wc.heap.size,0,none⟩) 1 1) (by rfl) (yB [.int .i64 g.base,.int .i64 g.h,.int .i64 g.p,.int .i64 g.m,.int .u32 g.seed,.slice ra K rc] rfl (by simp[Value.oneCell']) bs.o) m2.o.1 m2.o.2.1 ?_;intro v9 J ab ac;obtain⟨a9,c9,rfl,-,-⟩:=ab.value;obtain⟨y1,y2,y3,y4,y5⟩:=aQ.o j wc J B fc.o (Y8.o.2.comp ac fun i _ z=>z.elim False.elim fun z=>z.1);have Y9:=i7 (aN.o j wc _ J _ _ _ _ _ B s6.o fc.o Y8.o.2 (fun b n=>n.1) ac ab);clear ab ac)))
  all_goals
   rename_i hK;refine hK _ _ ?_;rw[HZ.o];have ah:(r7 x links g).length=r+1:=by rw[ae.o.1,ae.o.2.1];simp
   have hm:=Y9.o;rw[<-ah]at hm ⊢;exact Ay (X:=⟨r7 x links g,graphs++[g]⟩) hm aM.o.1 aM.o.2 aO.o.1 aO.o.2 HH.o.tab _ _ _ _ _ _ _ _ _ _ _ _ _ _ _ _ _ _ _ _ _ _ _ _ _ _ _ _ _ _ _ _ _ _ _ _ _ _ _ _ _ _ _ _ _ _ _ _ _ _ _ _ _ _ _ _ _ _ _ _ _ _ _ _ _ _ _ _ _ _ _ _ _ _ _ _ _ _ _ _ _ _ _ _ _ _ _ _ _ _ _ _ _ _ _ _ _ _ _ _ _ _ _ _ _ _ _ _ _ _ _ _ _ _ _ _ _ _ _ _ _ _ _ _ _ _
end Go.Proofs.YtofcogekgcgjhaaGreatDoor
