/- Packed. -/
import Derived.Test.YtofcogekgcgjhaaGreatDoorZzbo
import Derived.Test.YtofcogekgcgjhaaGreatDoorZzbp
set_option maxRecDepth 100000
set_option maxHeartbeats 8000000
namespace Go.Proofs.YtofcogekgcgjhaaGreatDoor
open Go.RowKit Go.Mine Go.Mine.Ac Go.Proofs.Tryz
def A1(w w':World)(d a:Nat):Prop:=J0 w' (fun b=>w.heap.size<=b∧b<w'.heap.size) d ⟨a,[],[],[],[],0,false⟩∧TF w w'
theorem pX(a:Nat)(h:a<=16777216):(⟨a,[],[],[],[],0,false⟩:Dk).Ok:=zg (q:=a) (by unfold M7;rw[if_neg (by omega)];rfl)
theorem vN(a:Nat)(h:a<=16777216):(I4 a emp).Ok:=by have:=(pX a h).createOk logB;have h2:((⟨a,[],[],[],[],0,false⟩:Dk).create logB).1=⟨a,[⟨emp,0⟩],[(logB,0)],[],[⟨emp,logB,0⟩],0,false⟩:=rfl;rw[h2]at this;exact this.syncNamesOk
theorem AK(a:Nat)(h:a<=16777216)(w:World):CZ 24 #[.int .i64 a] w fun e w'=>∃d,e=.returned (.tuple #[pt d,.int .i64 0])∧A1 w w' d a:=
 (zx (a:Nat) w).mono fun e w' y=>by
  have c:M7 (a:Nat)=some ⟨a,[],[],[],[],0,false⟩:=by unfold M7;rw[if_neg (by omega)];rfl
  rcases y with⟨y,-,-⟩|⟨D,d,y,h1,h2,h3⟩
  ·rw[c]at y;cases y
  ·rw[c]at y;obtain rfl:=Option.some.inj y;exact⟨d,h1,h2.widen fun b f z=>⟨z,f⟩,h3⟩
def A2(w w':World)(d r a:Nat):Prop:=∃S rs e c,J0 w' S d (I4 a emp)∧(∀b,S b->w.heap.size<=b∧b<w'.heap.size)∧F4 140 w' rs r (pt d) e c noSt∧(∀b,rs b≠0->w.heap.size<=b∧¬S b)∧TF w w'
theorem Ca{w g:World}{d c:Nat}(q:c<=16777216)(h:A1 w g d c):CZ 25 #[pt d] g fun e w'=>∃r,e=.returned (.tuple #[pt r,.int .i64 0])∧A2 w w' d r c:=by
 obtain⟨h1,h2⟩:=h;refine(iX h1 (pX c q) (by simp) (by simp) (fun b a=>a.2) rfl).mono fun e w' y=>?_
 have z:=h2.size;rw[sY]at y;obtain⟨S,j,k,l,m,r,rs,s,p,n,o,f⟩:=y;refine⟨r,n,S,rs,s,p,j,fun b a=>⟨?_,l b a⟩,o,fun b a=>⟨LR z (f b a).1,(f b a).2⟩,h2.comp m fun i t y=>y.elim False.elim fun y=>by omega⟩;rcases k b a with y|y
 ·exact y.1
 ·omega
theorem J4.bound{w0 w:World}{a:Nat->Prop}{d q p:Nat}{D:Dk}{s:St}{x:Ix}(h:J4 w0 w a d q p D s x):J4 w0 w (fun b=>a b∧b<w.heap.size) d q p D s x:=by
 obtain⟨S,rs,f,h,e⟩:=h;refine⟨S,rs,f,h,fun b c=>⟨e b c,?_⟩⟩;obtain⟨k,g,h1⟩:=h.st;obtain⟨j,i,h2⟩:=h.ix;rcases c with y|y|y
 ·exact(h.sb b y).2
 ·exact h1.bnd b y
 ·exact h2.bnd b y
def Sc(w c W:World)(K:Nat->Prop)(d q p:Nat)(D:Dk)(s:St)(x:Ix):Prop:=∃a,J4 w W a d q p D s x∧(∀b,a b->b<W.heap.size)∧(∀b,K b->¬a b∧b<c.heap.size)∧d7 (fun b=>¬K b) c W
theorem Sc.still{w c W a:World}{K:Nat->Prop}{d q p:Nat}{D:Dk}{s:St}{x:Ix}(h:Sc w c W K d q p D s x)(t:TF W a):Sc w c a K d q p D s x:=by obtain⟨e,h1,h2,h3,h4⟩:=h;exact⟨e,h1.still t,fun b f=>LC (h2 b f) t.size,h3,h4.trans t fun _ _ z=>z.elim⟩
theorem Sc.to{w c W f:World}{K e:Nat->Prop}{d q p:Nat}{D':Dk}{g:St}{h:Ix}(h1:vG w W e d q p D' g h f)(h3:∀b,K b->¬e b∧b<c.heap.size)(h4:d7 (fun b=>¬K b) c W):Sc w c f K d q p D' g h:=by have z:=h4.size;exact⟨_,h1.1.bound,fun b a=>a.2,fun b a=>⟨fun y=>y.1.elim (h3 b a).1 fun y=>by have:=(h3 b a).2;omega,(h3 b a).2⟩,h4.trans h1.2 fun b _ z y=>(h3 b y).1 z⟩
theorem yJ{W:World}{b:Nat}(a:W.heap[b]?=some (.cells #[.int .i64 0] 3)):p7 W (fun y=>y=b) (some ⟨b,0,none⟩) 1 c1.par:=by
 refine⟨by decide,by simp[maxLen],fun x hx=>?_,fun _=>⟨_,_,rfl,rfl,i6 a,fun i x hx=>?_⟩⟩
 ·obtain rfl:x=0:=by simpa[c1]using hx
  exact⟨by decide,by decide⟩
 ·match i,hx with
  |0,hx=>
   obtain rfl:0=x:=by simpa[c1]using hx
   exact g9 a 0 _ rfl
  |i+1,hx=>simp[c1]at hx
def Dz(n:Int)(a:Nat)(g:Gr):Ix:=⟨[(0,n,a)],[g]⟩
theorem wV(a:Nat)(L:ByteArray):R7 (I4 a L) 800000000:=⟨by simp[I4],by simp[I4]⟩
theorem yK{w i W:World}{K:Nat->Prop}{d q p f:Nat}{L:ByteArray}{s:St}(tab:∀W,TF w W->Ch.jr W∧Ch.ia W)(h:Sc w i W K d q p (I4 f L) s noIx)(h1:1<=s.commits.length)(h2:s.commits.length<=100)(A:L.size+1066+95*s.commits.length<=f):
  CZ 18 #[pt p,.iface 34 (pt q),.agg #[.int .i64 3,.int .i64 10,.int .i64 9,.int .u32 0]] W fun e w'=>e=.returned (.int .i64 0)∧∃T C c,T=(K9 (D9 s usualG 0 [])).1∧C=(L4 [(0,(s.commits.length:Int),c)]).1∧c=Crc.sum (p6 T)∧T.size<=66+95*s.commits.length∧C.size<=1000∧(K9 (D9 s usualG 0 [])).2=0∧(L4 [(0,(s.commits.length:Int),c)]).2=0∧Sc w i w' K d q p (jL f L T C) s (Dz s.commits.length c (D9 s usualG 0 [])):=by
 obtain⟨B,j,D,v,x⟩:=h;have z:B9 s:=by obtain⟨_,_,_,y,_⟩:=j;exact y.good
 obtain⟨T,C,c,l,m,n,o,r,t,u,g⟩:=pU z h1 h2 A;have:=og j tab (wV f L) usualG (by decide) (by rw[g]) (by show¬(s.commits.length:Int)=0;omega) (by decide) (by rw[g];intro y k;simp only[List.mem_singleton]at k;rw[k];exact⟨Int.le_refl 0,(by decide:(0:Int)<1073741824)⟩);rw[g]at this;exact this.mono fun e w'⟨a,b⟩=>⟨a,T,C,c,l,m,n,o,r,t,u,Sc.to b v x⟩
def fB(w0 w:World)(a:Nat->Prop)(d q:Nat)(D:Dk)(s:St):Prop:=∃S rs e c,J0 w S d D∧D.Ok∧(∀b,S b->w0.heap.size<=b∧b<w.heap.size)∧F4 140 w rs q (pt d) e c s∧B9 s∧(∀b,rs b≠0->w0.heap.size<=b∧¬S b)∧(∀b,S b∨rs b≠0->a b∧b<w.heap.size)∧TF w0 w
theorem fB.still{w0 w w':World}{a:Nat->Prop}{d q:Nat}{D:Dk}{s:St}(h:fB w0 w a d q D s)(t:TF w w'):fB w0 w' a d q D s:=by obtain⟨S,rs,j,e,h1,h2,h3,h4,f,g,c,i⟩:=h;exact⟨S,rs,j,e,h1.turned t fun _ _ z=>z,h2,fun b z=>⟨(h3 b z).1,LC (h3 b z).2 t.size⟩,h4.turned t fun _ _ z=>z,f,g,fun b z=>⟨(c b z).1,LC (c b z).2 t.size⟩,i.tr t⟩
theorem fA.sw{w0 w w':World}{S:Nat->Prop}{rs:Nat->Nat}{d q:Nat}{D':Dk}{c:St}(tw:TF w0 w)(h3:∀b,S b->w0.heap.size<=b∧b<w.heap.size)(k:∀b,rs b≠0->w0.heap.size<=b∧¬S b)(a:fA w S rs d q D' c w')(p:D'.Ok)(o:B9 c):fB w0 w' (fun b=>S b∨rs b≠0∨w.heap.size<=b) d q D' c∧d7 (fun b=>S b∨rs b≠0) w w':=by
 obtain⟨S',r,s,n,l,e,f,g,h,m,j⟩:=a;have u:=tw.size;refine⟨⟨S',r,s,n,l,p,fun b z=>⟨?_,f b z⟩,g,o,fun b z=>⟨?_,fun y=>z (m b y)⟩,fun b z=>⟨?_,?_⟩,tw.comp j fun i t z=>?_⟩,j⟩
 ·rcases e b z with y|y
  ·exact(h3 b y).1
  ·omega
 ·rcases h b z with y|y
  ·exact(k b y).1
  ·omega
 ·rcases z with z|z
  ·exact(e b z).imp id .inr
  ·exact .inr (h b z)
 ·rcases z with z|z
  ·exact f b z
  ·exact g.bnd b z
 ·rcases z with z|z|z
  ·exact z
  ·have:=(h3 i z).1;omega
  ·have:=(k i z).1;omega
def Sx(w W:World)(d q:Nat)(D:Dk)(s:St):Prop:=∃a,fB w W a d q D s
theorem vO{w W c:World}{S0:Nat->Prop}{d q:Nat}{D:Dk}{s:St}{a:Option Addr}{cap:Nat}{t:List Ent}(h:Sx w W d q D s)(f:TF W c)(l:H1 c S0 a cap t)(j:∀b,S0 b->W.heap.size<=b)(v:t.length<=1000000000):
  CZ 21 #[pt q,.slice a t.length cap] c fun e w'=>e=.returned (.tuple #[.int .i64 (addTree D s t).2.2.1,.int .i64 ((addTree D s t).2.2.2:Nat)])∧Sx w w' d q (addTree D s t).1 (addTree D s t).2.1:=by
 obtain⟨B,S,rs,E,C,h1,h2,h3,h4,p,i,r,u⟩:=h;have m:=h1.turned f fun _ _ z=>z
 have n:=h4.turned f fun _ _ z=>z
 have z:=f.size;have g:∀b,S b->w.heap.size<=b∧b<c.heap.size:=fun b y=>⟨(h3 b y).1,LC (h3 b y).2 z⟩
 have o:∀b,S b->rs b=0:=fun b y=>by apply LK;intro k;exact(i b k).2 y
 refine(iW m h2 n o (fun b y=>(g b y).2) l (fun b y=>⟨fun k=>?_,?_⟩) v).mono fun e w'⟨x,A⟩=>⟨x,_,(A.sw (u.tr f) g i (iZ s t h2 fun b=>gE h2 s 1 b) (p.addTree l.2.2.1)).1⟩
 ·have:=(h3 b k).2;have:=j b y;omega
 ·apply LK;intro k;have:=(r b (.inr k)).2;have:=j b y;omega
theorem jl{w W f:World}{S0:Nat->Prop}{d q:Nat}{D:Dk}{s:St}{a:Option Addr}{cap:Nat}{c:Cm}(h:Sx w W d q D s)(g:TF W f)(u:p7 f S0 a cap c.par)(l:∀b,S0 b->W.heap.size<=b)(v:c.par.length<=1000000000):
  CZ 22 #[pt q,kJ a cap c] f fun e w'=>e=.returned (.tuple #[.int .i64 (addCommit D s c).2.2.1,.int .i64 ((addCommit D s c).2.2.2:Nat)])∧Sx w w' d q (addCommit D s c).1 (addCommit D s c).2.1:=by
 obtain⟨B,S,rs,E,C,h1,h2,h3,h4,p,j,r,t⟩:=h;have m:=h1.turned g fun _ _ z=>z
 have n:=h4.turned g fun _ _ z=>z
 have z:=g.size;have i:∀b,S b->w.heap.size<=b∧b<f.heap.size:=fun b y=>⟨(h3 b y).1,LC (h3 b y).2 z⟩
 have o:∀b,S b->rs b=0:=fun b y=>by apply LK;intro k;exact(j b k).2 y
 refine(gi m h2 n o (fun b y=>(i b y).2) u (fun b y=>⟨fun k=>?_,?_⟩) v).mono fun e w'⟨x,A⟩=>⟨x,_,(A.sw (t.tr g) i j (gm s c h2 fun b=>gE h2 s 2 b) p.addCommit).1⟩
 ·have:=(h3 b k).2;have:=l b y;omega
 ·apply LK;intro k;have:=(r b (.inr k)).2;have:=l b y;omega
theorem A2.sx{w w':World}{d r a:Nat}(k:a<=16777216)(h:A2 w w' d r a):Sx w w' d r (I4 a emp) noSt:=by obtain⟨S,rs,l,j,f,c,e,g,i⟩:=h;exact⟨fun b=>S b∨rs b≠0,S,rs,l,j,f,vN a k,c,e,noSt_good,g,fun b z=>⟨z,z.elim (fun y=>(c b y).2) fun y=>e.bnd b y⟩,i⟩
theorem Cb{w W:World}{d q c:Nat}(g:1000<=c)(h:Sx w W d q (I4 c emp) noSt):
  CZ 21 #[pt q,.slice (some ⟨W.heap.size,0,none⟩) 1 1] (W.alloc (.cells #[.string ⟨#[97]⟩,.int .u32 1] 96)) fun e w'=>e=.returned (.tuple #[.int .i64 0,.int .i64 0])∧Sx w w' d q (I4 c L1) sA:=by
 obtain⟨k,f⟩:=A0 (w:=W) (.cells #[.string ⟨#[97]⟩,.int .u32 1] 96);have j:H1 (W.alloc (.cells #[.string ⟨#[97]⟩,.int .u32 1] 96)) (fun b=>b=W.heap.size) (some ⟨W.heap.size,0,none⟩) 1 t1:=by
  refine⟨by decide,by simp[maxLen],t1_ok,fun _=>⟨_,_,rfl,rfl,i6 f,fun i y a=>?_⟩⟩
  match i,a with
  |0,a=>
   obtain rfl:(aB,1)=y:=by simpa[t1]using a
   exact⟨g9 f 0 _ rfl,g9 f 1 _ rfl⟩
  |i+1,a=>simp[t1]at a
 have:=vO h k j (fun b l=>by omega) (by decide);rw[Eg g]at this;exact this
theorem EH{w W:World}{d q f:Nat}(g:1000<=f)(h:Sx w W d q (I4 f L1) sA):
  CZ 22 #[pt q,.agg #[.slice none 0 0,.int .i64 0]] W fun e w'=>e=.returned (.tuple #[.int .i64 0,.int .i64 0])∧Sx w w' d q (I4 f L2) sB:=by
 have:=jl (S0:=fun _=>False) (a:=none) (cap:=0) (c:=c0) h TQ ⟨by decide,by simp[maxLen],fun x hx=>by simp[c0]at hx,fun z=>by simp[c0]at z⟩ (fun b z=>z.elim) (by decide);rw[Eh g]at this;exact this
theorem EI{w W:World}{d q a:Nat}(f:1000<=a)(h:Sx w W d q (I4 a L2) sB):
  CZ 22 #[pt q,.agg #[.slice (some ⟨W.heap.size,0,none⟩) 1 1,.int .i64 0]] (W.alloc (.cells #[.int .i64 0] 3)) fun e w'=>e=.returned (.tuple #[.int .i64 1,.int .i64 0])∧Sx w w' d q (I4 a L3) sC:=by
 obtain⟨g,i⟩:=A0 (w:=W) (.cells #[.int .i64 0] 3);have:=jl (c:=c1) h g (yJ i) (fun b j=>by omega) (by decide);rw[BY f]at this;exact this
theorem fB.turned{w0 w w':World}{c T:Nat->Prop}{d q:Nat}{D:Dk}{s:St}(h:fB w0 w c d q D s)(t:d7 T w w')(e:∀b,c b->¬T b)(g:∀b,T b->w0.heap.size<=b):fB w0 w' c d q D s:=by obtain⟨S,rs,m,f,h1,h2,h3,h4,j,k,a,l⟩:=h;exact⟨S,rs,m,f,h1.turned t fun b z=>e b (a b (.inl z)).1,h2,fun b z=>⟨(h3 b z).1,LC (h3 b z).2 t.size⟩,h4.turned t fun b z=>e b (a b (.inr z)).1,j,k,fun b z=>⟨(a b z).1,LC (a b z).2 t.size⟩,l.comp t fun i n z=>z.elim id fun z=>by have:=g i z;omega⟩
theorem fB.opened{w a:World}{S0:Nat->Prop}{d c:Nat}(n:c<=16777216)(h:J0 a S0 d ⟨c,[],[],[],[],0,false⟩)(g:∀b,S0 b->w.heap.size<=b∧b<a.heap.size)(t:TF w a):
  CZ 25 #[pt d] a fun e w'=>∃r,e=.returned (.tuple #[pt r,.int .i64 0])∧fB w w' (fun b=>S0 b∨a.heap.size<=b) d r (I4 c emp) noSt∧d7 S0 a w':=by
 refine(iX h (pX c n) (by simp) (by simp) (fun b z=>(g b z).2) rfl).mono fun e w' y=>?_
 have z:=t.size;rw[sY]at y;obtain⟨S,o,j,k,l,r,rs,s,q,p,m,f⟩:=y;refine⟨r,p,⟨S,rs,s,q,o,vN c n,fun b y=>⟨(j b y).elim (fun y=>(g b y).1) fun y=>by omega,k b y⟩,m,noSt_good,fun b y=>⟨LR z (f b y).1,(f b y).2⟩,fun b y=>?_,t.comp l fun i u y=>y.elim id fun y=>by have:=(g i y).1;omega⟩,l⟩;rcases y with y|y
 ·exact⟨j b y,k b y⟩
 ·exact⟨.inr (f b y).1,m.bnd b y⟩
theorem J4.mono{w0 w:World}{a c:Nat->Prop}{d q p:Nat}{D:Dk}{s:St}{x:Ix}(h:J4 w0 w a d q p D s x)(e:∀b,a b->c b):J4 w0 w c d q p D s x:=by obtain⟨S,rs,g,h,f⟩:=h;exact⟨S,rs,g,h,fun b z=>e b (f b z)⟩
theorem J4.all{w0 w:World}{a:Nat->Prop}{d q p:Nat}{D:Dk}{s:St}{x:Ix}(h:J4 w0 w a d q p D s x):J4 w0 w (fun b=>w0.heap.size<=b∧b<w.heap.size) d q p D s x:=by obtain⟨S,rs,e,h,c⟩:=h.bound;exact⟨S,rs,e,h,fun b z=>⟨z.elim (fun z=>(h.sb b z).1) fun z=>z.elim (h.b1 b) (h.b2 b),(c b z).2⟩⟩
theorem tf{w w2:World}{g:Nat->Prop}{d r:Nat}{D:Dk}{s:St}(h:fB w w2 g d r D s)(A:D.off=false)(B:D.read chainB=(emp,6))(n:Int):CZ 13 #[pt d,.int .i64 n] w2 fun e w'=>∃p,e=.returned (.tuple #[pt p,.int .i64 0])∧J4 w w' (fun b=>g b∨w2.heap.size<=b) d r p D s noIx∧TF w2 w':=by
 obtain⟨S,rs,E,u,i,h2,f,j,v,k,m,l⟩:=h;refine(ps i A B (by decide) n).mono fun e w'⟨p,b1,b2,b3,t,c⟩=>?_
 have z:=l.size;have C:∀b,rs b≠0->b<w2.heap.size:=j.bnd;have o:∀b,(if b=p then 1 else 0)≠0->b=p:=fun b a=>by apply LK;intro q;rw[if_neg q]at a;exact a rfl
 refine⟨p,b1,⟨S,rs,fun b=>if b=p then 1 else 0,⟨i.turned c fun _ _ z=>z,h2,fun b a=>⟨(f b a).1,LC (f b a).2 c.size⟩,⟨E,u,j.turned c fun _ _ z=>z⟩,v,⟨_,_,t⟩,noIx_ok,fun x hx=>by simp[noIx]at hx,fun b a=>(k b a).1,fun b a=>?_,fun b a=>⟨?_,?_⟩,fun b a=>?_,l.tr c⟩,fun b a=>?_⟩,c⟩
 ·rw[o b a];omega
 ·apply LK;intro q;exact(k b q).2 a
 ·show(if b=p then 1 else 0)=0;rw[if_neg (by have:=(f b a).2;omega)]
 ·show(if b=p then 1 else 0)=0;rw[if_neg (by have:=C b a;omega)]
 ·rcases a with y|y|y
  ·exact .inl (m b (.inl y)).1
  ·exact .inl (m b (.inr y)).1
  ·rw[o b y];exact .inr b2
theorem AL{w w2:World}{d r:Nat}{D:Dk}{s:St}(h:Sx w w2 d r D s)(c:D.off=false)(f:D.read chainB=(emp,6))(n:Int):CZ 13 #[pt d,.int .i64 n] w2 fun e w'=>∃p,e=.returned (.tuple #[pt p,.int .i64 0])∧J4 w w' (fun b=>w.heap.size<=b∧b<w'.heap.size) d r p D s noIx:=by obtain⟨g,h⟩:=h;exact(tf h c f n).mono fun e w'⟨p,a,b,_⟩=>⟨p,a,b.all⟩
def M1:ByteArray:=emp++AI []
def M2:ByteArray:=M1++pV c0
def r0:Rw:=⟨[],0,1,(H3 usualG []).state,(H3 usualG []).bits⟩
theorem pY{w0 w:World}{a:Nat->Prop}{d q p:Nat}{D:Dk}{s:St}{x:Ix}(h:J4 w0 w a d q p D s x):CZ 15 #[pt p] w (RT (.int .i64 x.len) w):=by obtain⟨S,rs,f,h,c⟩:=h;obtain⟨e,b,h2⟩:=h.ix;exact eC h2 h.iok
theorem wW{w0 w:World}{a:Nat->Prop}{d q p:Nat}{D:Dk}{s:St}{x:Ix}{n:Int}{g:Gr}{r:Rw}(h:J4 w0 w a d q p D s x)(b:E9 x n=some (g,r)):CZ 20 #[pt p,.int .i64 n] w (mw w r):=by obtain⟨S,rs,i,h,e⟩:=h;obtain⟨f,c,h2⟩:=h.ix;exact nX h2 h.iok n b
theorem wX{w0 w:World}{a:Nat->Prop}{d q p:Nat}{D:Dk}{s:St}{x:Ix}{n:Int}{path:ByteArray}{g:Gr}{r:Rw}(h:J4 w0 w a d q p D s x)(b:E9 x n=some (g,r))(c:path.size<=1000000000):CZ 17 #[pt p,.int .i64 n,.string path] w (RT (.bool (U6 (W6 g) (fu r) path)) w):=by obtain⟨S,rs,j,h,f⟩:=h;obtain⟨i,e,h2⟩:=h.ix;exact nY h2 h.iok n path c b
theorem yL{w0 w:World}{a:Nat->Prop}{d q p:Nat}{D:Dk}{s:St}{x:Ix}(h:J4 w0 w a d q p D s x):CZ 36 #[pt d] w (J2 w D):=by obtain⟨S,rs,c,h,b⟩:=h;exact pM h.disk h.dok
theorem J4.sc{w W:World}{d q p:Nat}{D:Dk}{s:St}{x:Ix}(h:J4 w W (fun b=>w.heap.size<=b∧b<W.heap.size) d q p D s x):Sc w W W (fun _=>False) d q p D s x:=⟨_,h,fun b z=>z.2,fun b z=>z.elim,TQ⟩
theorem Sc.pw{w b W:World}{K:Nat->Prop}{d q p:Nat}{D:Dk}{s:St}{x:Ix}(h:Sc w b W K d q p D s x):∃a,J4 w W a d q p D s x:=by obtain⟨a,h1,-⟩:=h;exact⟨a,h1⟩
theorem vP{w W:World}{d q:Nat}{D:Dk}{s:St}(h:Sx w W d q D s):CZ 30 #[pt q] W fun e w'=>e=.returned (.int .i64 s.commits.length)∧W=w':=by obtain⟨a,S,rs,j,b,h1,h2,h3,h4,c,f,g,i⟩:=h;exact O4 h4
theorem EJ{a:Nat}(h:G0 (Dz 2 a ⟨0,3,10,9,0,[rA,rB]⟩)):E9 (Dz 2 a ⟨0,3,10,9,0,[rA,rB]⟩) 0=some (⟨0,3,10,9,0,[rA,rB]⟩,rA)∧E9 (Dz 2 a ⟨0,3,10,9,0,[rA,rB]⟩) 1=some (⟨0,3,10,9,0,[rA,rB]⟩,rB):=by
 constructor
 ·obtain⟨r,h1,h2⟩:=gn h (n:=0) (i:=0) (g:=⟨0,3,10,9,0,[rA,rB]⟩) rfl (by simp[Dz,Ch.totLn]) (by decide);have e:(([rA,rB]:List Rw)[((0:Int)-0).toNat]?)=some rA:=rfl;have:some rA=some r:=e.symm.trans h1;rw[h2,<-Option.some.inj this]
 ·obtain⟨r,h1,h2⟩:=gn h (n:=1) (i:=0) (g:=⟨0,3,10,9,0,[rA,rB]⟩) rfl (by simp[Dz,Ch.totLn]) (by decide);have e:(([rA,rB]:List Rw)[((1:Int)-0).toNat]?)=some rB:=rfl;have:some rB=some r:=e.symm.trans h1;rw[h2,<-Option.some.inj this]
variable {w0 w:World} {r d q p v a y:Nat} {D:Dk} {s:St} {x:Ix}
theorem AM(h:eH w0 w r d q p v a y D s x)(j:ir D.names D.seen)(f:D.off=false)(m:D.seen.length<=100000):CZ 105 #[pt r] w (RT (.bool true) w):=by
 obtain⟨A,B,h⟩:=h;obtain⟨S,rs,H,b,F⟩:=h.pw;obtain⟨C,G,I,c,E⟩:=h.dw;refine yw h.rb (fun W t=>pM (b.disk.turned t fun _ _ z=>z) b.dok) (fun W t=>?_) (fun W t=>?_) (fun W t=>?_) (fun W name t=>?_) (fun W name t=>?_) j.1
 ·obtain⟨o,l,u,k,n,b1,b2⟩:=c.disk.turned t fun _ _ z=>z
  exact mD b1 f m j rfl
 ·refine(Da (b.disk.turned t fun _ _ z=>z)).mono fun e w'⟨g,i⟩=>⟨by rw[g,f],by rw[i];exact TQ⟩
 ·obtain⟨o,l,u,k,n,b1,b2⟩:=c.disk.turned t fun _ _ z=>z
  exact⟨by rw[<-f];exact g9 b1.blk 6 _ rfl,i6 b1.blk⟩
 ·exact(uO (b.disk.turned t fun _ _ z=>z) name).mono fun e w'⟨g,i⟩=>⟨g,by rw[i];exact TQ⟩
 ·exact ve (c.disk.turned t fun _ _ z=>z) b.dok name
theorem AN(h:eH w0 w r d q p v a y D s x):CZ 15 #[pt p] w (RT (.int .i64 x.len) w):=by obtain⟨b,c,h⟩:=h;exact pY h.pw
theorem gw(h:eH w0 w r d q p v a y D s x):G0 x∧D.Ok∧B9 s:=by obtain⟨c,e,h⟩:=h;obtain⟨S,rs,g,b,f⟩:=h.pw;exact⟨b.iok,b.dok,b.good⟩
theorem Cc(h:eH w0 w r d q p v a y D s x):CZ 106 #[pt y] w (RT (.int .i64 x.len) w):=by have c:=(gw h).1;obtain⟨e,f,h⟩:=h;obtain⟨g,l,m,b,j⟩:=h.dw;obtain⟨k,i,h2,-⟩:=b.ix;exact gF h2 c
theorem oj(h:eH w0 w r d q p v a y D s x):CZ 16 #[pt p] w (je w (I9 x)):=by obtain⟨c,e,h⟩:=h;obtain⟨S,rs,j,b,g⟩:=h.pw;obtain⟨i,f,h2⟩:=b.ix;exact sG h2 b.iok
def rowR:Option (Gr×Rw)->Rw×Bool
 |none=>(⟨[],0,0,0,⟨#[]⟩⟩,false)
 |some (_,r)=>(r,true)
def fy(w:World)(S:Nat->Prop)(a:Option Addr)(cap:Nat)(l:List Int):Prop:=l=[]∨p7 w S a cap l
theorem fy.turned{w w':World}{S T:Nat->Prop}{a:Option Addr}{cap:Nat}{l:List Int}(h:fy w S a cap l)(t:d7 T w w')(c:∀b,S b->¬T b):fy w' S a cap l:=h.imp id fun h=>h.turned t c
theorem nj(a b:Option Addr)(c d:Nat)(w:World):CZ 107 #[.slice a 0 c,.slice b 0 d] w (RT (.bool true) w):=by
 go_enter func107,ntmps107;go_wp2;go_loopg[5] 0 (fun g v wr=>g=0∧v=.int .i64 0∧wr=w)
 case atStart=>exact⟨rfl,rfl,rfl⟩
 case round=>
  obtain⟨rfl,rfl,rfl⟩:=hrel;go_wp2;go_ret;exact⟨rfl,TQ⟩
theorem tg{w:World}{e f:Nat->Prop}{a b:Option Addr}{c d:Nat}{l:List Int}(h1:fy w e a c l)(h2:fy w f b d l)(g:l.length<=1000000):CZ 107 #[.slice a l.length c,.slice b l.length d] w (RT (.bool true) w):=by
 by_cases h:l=[]
 ·subst h;exact nj a b c d w
 ·exact iS (h1.resolve_left h) (h2.resolve_left h) g
theorem vQ{w:World}{h i:Nat->Prop}{a b:Option Addr}{c d:Nat}{r:Rw}(h1:fy w h a c r.par)(h2:fy w i b d r.par)(f:r.par.length<=1000000):
  CZ 92 #[dD a c r,dD b d r] w (RT (.bool true) w):=by
 obtain⟨par,tree,gen,state,bits⟩:=r;dsimp only at h1 h2 f ⊢;have g:Hid (∀W,TF w W->CZ 107 #[.slice a par.length c,.slice b par.length d] W (RT (.bool true) w)):=i7 fun W t=>(tg (h1.turned t fun _ _ z=>z) (h2.turned t fun _ _ z=>z) f).mono fun e w'⟨x,y⟩=>⟨x,t.tr y⟩
 have k:(bits.toList==bits.toList)=true:=iM rfl;show CZ 92 #[.agg #[.slice a par.length c,.int .i64 tree,.int .i64 gen,.int .i64 state,.string bits],.agg #[.slice b par.length d,.int .i64 tree,.int .i64 gen,.int .i64 state,.string bits]] w _;generalize par.length=N at *;clear h1 h2 f;go_enter func92,ntmps92;go_wp2_with(go_fit(g.o _ (TA.new _));rintro e l⟨rfl,j⟩);go_ret;exact⟨rfl,j⟩
def om(w:World)(S:World->Nat->Prop)(o:Option (Gr×Rw))(e:Ending)(w':World):Prop:=∃a cap,e=.returned (.tuple #[dD a cap (rowR o).1,.bool (rowR o).2])∧fy w' (S w') a cap (rowR o).1.par∧TF w w'
theorem pZ(c:G0 x){n:Int}{g:Gr}{r:Rw}(e:E9 x n=some (g,r)):r.par.length<=16∧∀z∈r.par,eO z:=by obtain⟨-,-,i,k,f,b,-⟩:=fd c e;have a:=c.graph i g f;have d:=a.1.2.2 k r b;have j:=a.1.1.2.1;have l:=a.1.1.2.2;have m:=(LA.1 b).1;refine⟨d.1,fun z h=>?_⟩;have:=N2 d.2.2.2.2.2.1 z h;exact⟨by omega,by omega⟩
theorem Ej(h:eH w0 w r d q p v a y D s x)(n:Int):CZ 20 #[pt p,.int .i64 n] w (om w (fun w' b=>w.heap.size<=b∧b<w'.heap.size) (E9 x n)):=by
 obtain⟨u,z,h⟩:=h;obtain⟨S,rs,H,f,E⟩:=h.pw;obtain⟨F,C,h2⟩:=f.ix;cases i:E9 x n with
 |none=>refine(yt h2 f.iok n i).mono fun e w'⟨b,c,j,k⟩=>⟨b,c,j,.inl rfl,k⟩
 |some m=>
  obtain⟨g,G⟩:=m;refine(nX h2 f.iok n i).mono fun e w'⟨b,c,j,k,t⟩=>?_
  obtain⟨A,B,l,o⟩:=gU k.bound (pZ f.iok i).2;simp only[Value.slice.injEq,true_and]at l;obtain⟨rfl,rfl⟩:=l;exact⟨b,c,j,.inr o,t⟩
theorem Cd(h:eH w0 w r d q p v a y D s x)(n:Int)(m:n<=9223372036854775807):CZ 108 #[pt y,.int .i64 n] w (om w (fun _ b=>b<w.heap.size) (E9 x n)):=by
 have o:=(gw h).1;obtain⟨u,A,h⟩:=h;obtain⟨B,I,J,l,E⟩:=h.dw;obtain⟨G,C,h2,-⟩:=l.ix;have:=yp h2 o n m;cases j:E9 x n with
 |none=>rw[j]at this;refine this.mono fun e w'⟨f,i⟩=>⟨none,0,f,.inl rfl,i⟩
 |some k=>obtain⟨g,H⟩:=k;rw[j]at this;refine this.mono fun e w'⟨b,c,f,i,t⟩=>⟨b,c,f,.inr (i.mono fun z F=>h2.bnd z (by omega)),t⟩
theorem Ek(h:eH w0 w r d q p v a y D s x)(n:Int)(path:ByteArray)(i:path.size<=1000000000):CZ 17 #[pt p,.int .i64 n,.string path] w (RT (.bool (gJ x n path)) w):=by
 obtain⟨k,l,h⟩:=h;obtain⟨S,rs,u,c,o⟩:=h.pw;obtain⟨t,m,h2⟩:=c.ix;cases b:E9 x n with
 |none=>
  have e:gJ x n path=true:=by unfold gJ;rw[b]
  rw[e];exact yr h2 c.iok n path b
 |some f=>
  obtain⟨g,j⟩:=f;have e:gJ x n path=U6 (W6 g) (fu j) path:=by unfold gJ;rw[b]
  rw[e];exact nY h2 c.iok n path i b
theorem Ce(h:eH w0 w r d q p v a y D s x)(n:Int)(c:n<=9223372036854775807)(path:ByteArray)(f:path.size<=1000000000):CZ 109 #[pt y,.int .i64 n,.string path] w (RT (.bool (gJ x n path)) w):=by have e:=(gw h).1;obtain⟨g,i,h⟩:=h;obtain⟨j,o,t,b,l⟩:=h.dw;obtain⟨m,k,h2,-⟩:=b.ix;exact yq h2 e n c path f
theorem fk(b:G0 x):I9 x=x.links.map (·.2.1):=by
 unfold I9;apply List.ext_getElem?;intro i;rw[List.getElem?_map,List.getElem?_map];cases a:x.graphs[i]?with
 |none=>
  have:x.links[i]?=none:=by rw[List.getElem?_eq_none_iff,<-b.both];exact List.getElem?_eq_none_iff.1 a
  rw[this];rfl
 |some g=>obtain⟨-,-,l,c,e⟩:=b.graph i g a;rw[c];simp[e]
end Go.Proofs.YtofcogekgcgjhaaGreatDoor
namespace Go.Proofs.YtofcogekgcgjhaaGreatDoor
open Go.RowKit Go.Mine Go.Mine.Ac Go.Proofs.Tryz
theorem El{w w0:World}{a:Nat->Prop}{d q p:Nat}{D:Dk}{s:St}{x:Ix}(h:J4 w0 w a d q p D s x):G0 x:=by obtain⟨S,rs,c,h,b⟩:=h;exact h.iok
abbrev Ff(a:Nat):Ix:=Dz 2 a ⟨0,3,10,9,0,[rA,rB]⟩
structure EK (w:World) (d p:Nat) (W:World):Prop where
 row:∀W',TF W W'->CZ 20 #[pt p,.int .i64 1] W' fun e w'=>(∃a cap,e=.returned (.tuple #[.agg #[.slice a 1 cap,.int .i64 0,.int .i64 2,.int .i64 (H3 usualG []).state,.string (H3 usualG []).bits],.bool true]))∧TF W w'
 len:∀W',TF W W'->CZ 15 #[pt p] W' (RT (.int .i64 2) W)
 nms:∀W',TF W W'->CZ 36 #[pt d] W' fun e w'=>∃a c,e=.returned (.slice a 3 c)∧Sl w' (fun b=>W'.heap.size<=b) 9 1 (.slice a 3 c) [.string chainB,.string g0B,.string logB] 3∧TF W w'
 may0:∀W',TF W W'->CZ 17 #[pt p,.int .i64 0,.string ⟨#[97]⟩] W' (RT (.bool true) W)
 may1:∀W',TF W W'->CZ 17 #[pt p,.int .i64 1,.string ⟨#[97]⟩] W' (RT (.bool false) W)
 new:TF w W
theorem Fg{w W:World}{i:Nat->Prop}{d q p g:Nat}{T C:ByteArray}(h:J4 w W i d q p (jL 10000 L3 T C) sC (Ff g)):EK w d p W:=by
 have o:=El h;have r:(Ff g).len=2:=by simp[Ff,Dz,Ix.len,Ch.totLn]
 obtain⟨n,f1⟩:=EJ o;refine⟨fun f t=>?_,fun f t=>?_,fun f t=>?_,fun f t=>?_,fun f t=>?_,h.new_le⟩
 ·exact(wW (h.still t) f1).mono fun e w'⟨a,c,l,s,m⟩=>⟨⟨a,c,l⟩,t.tr m⟩
 ·refine(pY (h.still t)).mono fun e w'⟨a,b⟩=>⟨?_,t.trans b fun _ _ z=>z⟩
  rw[a,r]
 ·refine(yL (h.still t)).mono fun e w'⟨v,a,b,c⟩=>?_
  rw[kZ]at b;obtain⟨j,k,rfl,-,-⟩:=b.value;exact⟨j,k,a,b,t.tr c⟩
 ·refine(wX (path:=aB) (h.still t) n (by decide)).mono fun e w'⟨a,b⟩=>⟨?_,t.trans b fun _ _ z=>z⟩
  rw[a];exact congrArg (fun b=>Ending.returned (.bool b)) may_a
 ·refine(wX (path:=aB) (h.still t) f1 (by decide)).mono fun e w'⟨a,b⟩=>⟨?_,t.trans b fun _ _ z=>z⟩
  rw[a];exact congrArg (fun b=>Ending.returned (.bool b)) may_0
theorem th(w:World)(tab:∀W,TF w W->Ch.jr W∧Ch.ia W):CZ 12 #[] w (RT (.bool true) w):=by
 have P:Hid (CZ 24 #[.int .i64 10000] w fun e w'=>∃d,e=.returned (.tuple #[pt d,.int .i64 0])∧A1 w w' d 10000):=i7 (AK 10000 (by decide) w);have Q:Hid (∀l d,A1 w l d 10000->CZ 25 #[pt d] l fun e w'=>∃r,e=.returned (.tuple #[pt r,.int .i64 0])∧Sx w w' d r (I4 10000 emp) noSt):=fun l d h=>(Ca (by decide) h).mono fun e w'⟨r,a,b⟩=>⟨r,a,b.sx (by decide)⟩
 have U:Hid (∀W d q,Sx w W d q (I4 10000 emp) noSt->CZ 21 #[pt q,.slice (some ⟨W.heap.size,0,none⟩) 1 1] (W.alloc (.cells #[.string ⟨#[97]⟩,.int .u32 1] 96)) fun e w'=>e=.returned (.tuple #[.int .i64 0,.int .i64 0])∧Sx w w' d q (I4 10000 L1) sA):=fun W d q h=>Cb (by decide) h
 have K:Hid (∀W d q,Sx w W d q (I4 10000 L1) sA->CZ 22 #[pt q,.agg #[.slice none 0 0,.int .i64 0]] W fun e w'=>e=.returned (.tuple #[.int .i64 0,.int .i64 0])∧Sx w w' d q (I4 10000 L2) sB):=fun W d q h=>EH (by decide) h
 have L:Hid (∀W d q,Sx w W d q (I4 10000 L2) sB->CZ 22 #[pt q,.agg #[.slice (some ⟨W.heap.size,0,none⟩) 1 1,.int .i64 0]] (W.alloc (.cells #[.int .i64 0] 3)) fun e w'=>e=.returned (.tuple #[.int .i64 1,.int .i64 0])∧Sx w w' d q (I4 10000 L3) sC):=fun W d q h=>EI (by decide) h
 have M:Hid (∀W d q,Sx w W d q (I4 10000 L3) sC->CZ 30 #[pt q] W fun e w'=>e=.returned (.int .i64 2)∧W=w'):=fun W d q h=>vP h
 have N:Hid (∀W d q,Sx w W d q (I4 10000 L3) sC->CZ 13 #[pt d,.int .i64 2] W fun e w'=>∃p,e=.returned (.tuple #[pt p,.int .i64 0])∧Sc w w' w' (fun _=>False) d q p (I4 10000 L3) sC noIx):=fun W d q h=>(AL h rfl rfl 2).mono fun e w'⟨p,a,b⟩=>⟨p,a,b.sc⟩
 have O:Hid (∀g W d q p,Sc w g W (fun _=>False) d q p (I4 10000 L3) sC noIx->CZ 15 #[pt p] W fun e w'=>e=.returned (.int .i64 0)∧Sc w g w' (fun _=>False) d q p (I4 10000 L3) sC noIx):=fun g W d q p h=>by obtain⟨Y,h1⟩:=h.pw;exact(pY h1).mono fun e w'⟨a,b⟩=>⟨a,h.still b⟩
 have V:Hid (∀W,CZ 23 #[] W (RT (.agg #[.int .i64 3,.int .i64 10,.int .i64 9,.int .u32 0]) W)):=fun W=>rM W
 have X:Hid (∀g W d q p,Sc w g W (fun _=>False) d q p (I4 10000 L3) sC noIx->CZ 18 #[pt p,.iface 34 (pt q),.agg #[.int .i64 3,.int .i64 10,.int .i64 9,.int .u32 0]] W fun e w'=>e=.returned (.int .i64 0)∧EK w d p w'):=fun g W d q p h=>by
  refine(yK tab h (by decide) (by decide) (by rw[L3_size];decide)).mono fun e w'⟨a,T,C,sm,h1,h2,h3,h4,h5,h6,h7,F⟩=>⟨a,?_⟩
  rw[newG_C]at F;obtain⟨Y,y⟩:=F.pw;exact Fg y
 have R:Hid (∀(W g:World)(S:Nat->Prop)a c,Sl g S 9 1 (.slice a 3 c) [.string chainB,.string g0B,.string logB] 3->TF g (g.alloc (.cells #[.string ⟨#[99,104,97,105,110]⟩,.string ⟨#[103,114,97,112,104,45,48]⟩,.string ⟨#[108,111,103]⟩] 9))->CZ 37 #[.slice a 3 c,.slice (some ⟨g.heap.size,0,none⟩) 3 3] (g.alloc (.cells #[.string ⟨#[99,104,97,105,110]⟩,.string ⟨#[103,114,97,112,104,45,48]⟩,.string ⟨#[108,111,103]⟩] 9)) (RT (.bool true) g)):=fun W g S a c h t=>by have h2:Sl (g.alloc (.cells #[.string chainB,.string g0B,.string logB] 9)) (· =g.heap.size) 9 1 (.slice (some ⟨g.heap.size,0,none⟩) 3 3) [.string chainB,.string g0B,.string logB] 3:=⟨rfl,.inr ⟨g.heap.size,0,3,#[.string chainB,.string g0B,.string logB],rfl,rfl,i8 g _,by decide,by simp[maxLen],by simp,by simp⟩⟩;have:=gW (l1:=[chainB,g0B,logB]) (l2:=[chainB,g0B,logB]) (h.turned t fun _ _ z=>z) h2 ⟨by decide,by decide⟩;exact this.mono fun e w'⟨x,y⟩=>⟨x,t.tr y⟩
 clear tab;go_enter func12,ntmps12
 go_wp2_with(first
  |(go_fit P.o;rintro e l⟨d,rfl,n⟩;replace n:=i7 n)
  |(go_fit(Q.o _ d n.o);rintro e w2⟨q,rfl,s⟩;replace s:=i7 s)
  |(go_fit(U.o _ d q s.o);rintro e w5⟨rfl,u⟩;replace u:=i7 u)
  |(go_fit(K.o _ d q u.o);rintro e w6⟨rfl,v⟩;replace v:=i7 v)
  |(go_fit(L.o _ d q v.o);rintro e w7⟨rfl,m⟩;replace m:=i7 m)
  |(go_fit(M.o _ d q m.o);rintro e k⟨rfl,rfl⟩)
  |(go_fit(N.o _ d q m.o);rintro e w8⟨p,rfl,A⟩;replace A:=i7 A)
  |(go_fit(O.o _ _ d q p A.o);rintro e w9⟨rfl,B⟩;replace B:=i7 B)
  |(go_fit(V.o w9);rintro e ad⟨rfl,J⟩;have ac:=i7 (B.o.still J);clear J)
  |(go_fit(X.o _ _ d q p ac.o);rintro e H⟨rfl,j⟩;replace j:=i7 j;have f:Hid (TF H H):=i7 TQ)
  |(go_fit(j.o.row _ f.o);rintro e k⟨⟨D,E,rfl⟩,i⟩;have I:=i8 k (.cells #[.slice D 1 E,.int .i64 0,.int .i64 2,.int .i64 (H3 usualG []).state,.string (H3 usualG []).bits] 48);have r2:=g9 I 2 _ rfl;clear I;clear f;have f:=i7 (i.new (.cells #[.slice D 1 E,.int .i64 0,.int .i64 2,.int .i64 (H3 usualG []).state,.string (H3 usualG []).bits] 48));clear i)
  |(go_fit(j.o.len _ f.o);rintro e k⟨rfl,i⟩;clear f;have f:=i7 i;clear i)
  |(go_fit(j.o.nms _ f.o);rintro e ab⟨Z,aa,rfl,G,i⟩;clear f;have f:=i7 (And.intro G i);clear i G)
  |(go_fit(R.o w ab _ Z aa f.o.1 TA);rintro e k⟨rfl,i⟩;replace i:=f.o.2.tr i;clear f;have f:=i7 i;clear i)
  |(go_fit(j.o.may0 _ f.o);rintro e k⟨rfl,i⟩;clear f;have f:=i7 i;clear i)
  |(go_fit(j.o.may1 _ f.o);rintro e k⟨rfl,i⟩;clear f;have f:=i7 i;clear i))
 go_ret;exact⟨rfl,j.o.new.tr f.o⟩
def K1(w w':World)(d a:Nat):Prop:=G9 w' (fun b=>w.heap.size<=b∧b<w'.heap.size) d ⟨a,[],[],[],[],0,false⟩∧TF w w'
theorem Em(a:Nat)(h:a<=16777216)(w:World):CZ 56 #[.int .i64 a] w fun e w'=>∃d,e=.returned (.tuple #[pt d,.int .i64 0])∧K1 w w' d a:=
 (zK (a:Nat) w).mono fun e w' y=>by
  have c:M7 (a:Nat)=some ⟨a,[],[],[],[],0,false⟩:=by unfold M7;rw[if_neg (by omega)];rfl
  rcases y with⟨y,-,-⟩|⟨D,d,y,h1,h2,h3⟩
  ·rw[c]at y;cases y
  ·rw[c]at y;obtain rfl:=Option.some.inj y;exact⟨d,h1,h2.widen fun b f z=>⟨z,f⟩,h3⟩
def K2(w w':World)(d a:Nat):Prop:=(∃S,G9 w' S d (I4 a emp))∧TF w w'
end Go.Proofs.YtofcogekgcgjhaaGreatDoor
