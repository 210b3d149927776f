/- Packed. -/
import Derived.Test.YtofcogekgcgjhaaGreatDoorZzbu
import Derived.Test.YtofcogekgcgjhaaGreatDoorZzbr
import Derived.Test.YtofcogekgcgjhaaGreatDoorRows
import Derived.ProofKit
import Derived.OpenShut
import Derived.ShutString
import Derived.ChangeOld
import Derived.Deep.Slices
import Derived.Deep.Fields
import Derived.ChangeSame
import Derived.SizedLaws
set_option maxRecDepth 100000
set_option maxHeartbeats 8000000
namespace Go.Proofs.YtofcogekgcgjhaaGreatDoor
open Go.RowKit Go.Mine Go.Mine.Ac Go.Proofs.Tryz
theorem vS{s:St}(a:B9 s){g:I2}(b:n0 g){base:Int}{known:List Int}(e:fx known)(c:base=known.length)(h:known.length<=s.commits.length):Y2 (D9 s g base known):=by
 have f:=a.commits;refine⟨⟨by simp only[D9];omega,by simp only[D9];omega,?_⟩,b,fun i r d=>?_⟩
 ·simp only[D9,M0];omega
 ·have:=io a b (s.commits.length-known.length) known e (by omega) i r d;simp only[D9];rw[c];simpa using this
theorem vT{q:Nat}{L:ByteArray}{s:St}{g:I2}(x:B9 s)(o:n0 g)(h1:1<=s.commits.length)(h2:s.commits.length<=100)(D:L.size+1066+4179*s.commits.length<=q):
  ∃T C,iV (D9 s g 0 [])=.tuple #[.string T,.int .i64 0]∧Ch.dE [(0,(s.commits.length:Int),Crc.sum (p6 T))]=.tuple #[.string C,.int .i64 0]∧T.size<=66+4179*s.commits.length∧C.size<=1000∧D6 (I4 q L) noIx s g=(jL q L T C,⟨[(0,(s.commits.length:Int),Crc.sum (p6 T))],[D9 s g 0 []]⟩,0):=by
 have e:(D9 s g 0 []).rows.length=s.commits.length:=by simp[D9,M0]
 have m:Y2 (D9 s g 0 []):=vS x o (fun y B=>by simp at B) rfl (Nat.zero_le _);obtain⟨j,k⟩:=oh (z:=4096) m (fun r v=>by obtain⟨i,u⟩:=LM v;exact dy (m.2.2 i r u).2.2.2.2.2.2) (by rw[e];omega);rw[e]at k;obtain⟨T,a⟩:=EX ((K9 (D9 s g 0 [])).1);obtain⟨h,f⟩:=EX (Crc.sum (p6 T));have c:r7 noIx [] (D9 s g 0 [])=[(0,(s.commits.length:Int),h)]:=by unfold r7;rw[e,<-a,<-f];rfl
 obtain⟨C,b⟩:=EX ((L4 [(0,(s.commits.length:Int),h)]).1);have l:(L4 [(0,(s.commits.length:Int),h)]).2=0:=by unfold L4;rw[if_pos (wS _ (by omega) _)]
 have p:C.size<=1000:=by rw[b];exact jK _
 rw[<-a]at k;refine⟨T,C,by rw[pu,<-a,j];rfl,by rw[<-f,wG,<-b,l];rfl,by omega,p,?_⟩;rw[<-f];have w:H9 noIx s g=0:=by unfold H9;rw[if_neg (fun z=>z.elim (fun z=>z o) fun z=>by simp only[Ix.len,noIx,Ch.totLn]at z;omega)]
 have n:noIx.len=0:=rfl;unfold D6;rw[if_neg (by rw[w];simp),if_neg (by rw[n];omega),if_neg (by simp[noIx])];have t:dx noIx=[]:=rfl;rw[t,n];have d:noIx.links=[]:=rfl;have A:L5 (I4 q L) (Ch.iy noIx.links) (K9 (D9 s g 0 [])).1 (L4 (r7 noIx noIx.links (D9 s g 0 []))).1=(jL q L T C,0):=by rw[d,c,<-a,<-b];exact AF (by omega)
 rw[pO j (by rw[d,c];exact l) A];rw[d,c,wR (by simp[Ch.H2])];rfl
theorem ql{w:World}{M rs:Nat->Nat}{p q:Nat}{F L H G N E:Value}{x:Ix}{s:St}(hx:ed w M p F L H x)(k:G0 x)(l:F4 140 w rs q G N E s)(g:I2)(J:n0 g)(j:(s.commits.length:Int)=x.len):
  CZ 18 #[pt p,.iface 34 (pt q),J3 g] w (RT (.int .i64 0) w):=by
 have P:=cW q;obtain⟨c,f⟩:=EX (w.alloc (.cells #[.int .i64 g.h,.int .i64 g.p,.int .i64 g.m,.int .u32 g.seed] 24));have A:Hid (c=w.alloc (.cells #[.int .i64 g.h,.int .i64 g.p,.int .i64 g.m,.int .u32 g.seed] 24)):=f;have d:TF w c:=by rw[f];exact TA
 have D:Hid (TF w c):=d;have y:Hid (CZ 61 #[pt p,.iface 34 (pt q),.agg #[.int .i64 g.h,.int .i64 g.p,.int .i64 g.m,.int .u32 g.seed]] c (RT (.int .i64 0) c)):=i7 (by have:=il (hx.turned d fun _ _ z=>z) k (l.turned d fun _ _ z=>z) g;rw[show H9 x s g=0 by unfold H9;rw[if_neg (fun z=>z.elim (fun z=>z J) fun z=>by omega)]]at this;exact this);have v:c.heap[w.heap.size]?=some (.cells #[.int .i64 g.h,.int .i64 g.p,.int .i64 g.m,.int .u32 g.seed] 24):=by rw[f];exact i8 _ _
 have B:Hid (∀W,TF c W->W.cell? ⟨w.heap.size,0,none⟩=some (.int .i64 g.h)∧W.cell? ⟨w.heap.size,1,none⟩=some (.int .i64 g.p)∧W.cell? ⟨w.heap.size,2,none⟩=some (.int .i64 g.m)∧W.cell? ⟨w.heap.size,3,none⟩=some (.int .u32 g.seed)∧w.heap.size<W.heap.size):=fun W t=>by have h:=j9 v t id;exact⟨g9 h 0 _ rfl,g9 h 1 _ rfl,g9 h 2 _ rfl,g9 h 3 _ rfl,i6 h⟩
 have r:Hid (∀W,TF c W->CZ 30 #[pt q] W fun e w'=>e=.returned (.int .i64 s.commits.length)∧W=w'):=fun W t=>O4 ((l.turned d fun _ _ z=>z).turned t fun _ _ z=>z)
 have u:Hid (∀W,TF c W->CZ 15 #[pt p] W fun e w'=>e=.returned (.int .i64 x.len)∧TF c w'∧TF W w'):=fun W t=>(eC ((hx.turned d fun _ _ z=>z).turned t fun _ _ z=>z) k).mono fun e w'⟨a,b⟩=>⟨a,t.tr b,b⟩
 obtain⟨Q,R,S,T,U⟩:=B.o c TQ;obtain⟨C,I⟩:=EX s.commits.length;rw[<-I]at r j;obtain⟨O,K⟩:=EX x.len;rw[<-K]at u j;have d1:((C:Int)==O)=true:=by simp[j]
 clear hx l k f d v;go_enter func18,ntmps18;go_wp2_with fail;rw[<-A.o]
 go_wp2_with(first
  |(go_fit(y.o);rintro e V⟨rfl,i⟩;replace i:=i7 i)
  |(go_fit(r.o _ i.o);rintro e w'⟨rfl,rfl⟩)
  |(go_fit(u.o _ i.o);rintro e w2⟨rfl,n,-⟩;replace n:=i7 n))
 go_ret;exact⟨rfl,D.o.tr n.o⟩
theorem W8.dw{w0 w w':World}{m S:Nat->Prop}{rs j:Nat->Nat}{v a y:Nat}{D D':Dk}{s:St}{x l:Ix}(h:DW w0 w S rs j v a y D s x)(d:∀b,S b∨rs b≠0∨j b≠0->m b)(k:W8 w S (fun _=>False) v y D' l w')(B:l≠noIx):AB w0 w m v a y D' s l w':=by
 obtain⟨S',E,C,u,o,e,p,q,f,r,g⟩:=k;obtain⟨F,t,h1⟩:=h.st;obtain⟨H,G,h2,-⟩:=h.ix;have I:=h.tw.size;have n:∀b,rs b≠0->b<w.heap.size:=h1.bnd;have c:j y≠0:=by rw[h2.r1];decide
 refine⟨⟨S',rs,E,⟨o,fun b z=>⟨?_,p b z⟩,⟨F,t,h1.turned g fun b z y=>?_⟩,⟨C,u,q,fun z=>(B z).elim⟩,h.b1,fun b z=>?_,fun b z=>⟨?_,r b z⟩,fun b z=>?_,h.tw.comp g fun i A z=>?_⟩,fun b z=>?_⟩,g.mono fun b _ z=>d b (z.elim .inl fun z=>.inr (.inr (z▸c)))⟩
 ·rcases e b z with y|y
  ·exact(h.sb b y).1
  ·omega
 ·rcases y with y|y
  ·exact z (h.d1 b y).1
  ·rw[y]at z;exact c (h.d2 _ z)
 ·rcases f b z with y|y|y
  ·exact h.b2 b (y▸c)
  ·exact y.elim
  ·omega
 ·rcases e b z with y|y
  ·exact(h.d1 b y).1
  ·apply LK;intro k;have:=n b k;omega
 ·apply LK;intro k;rcases f b k with y|y|y
  ·exact c (y▸h.d2 b z)
  ·exact y.elim
  ·have:=n b z;omega
 ·rcases z with z|z|z
  ·exact z
  ·have:=(h.sb i z).1;omega
  ·rw[z]at A;have:=h.b2 y c;omega
 ·rcases z with z|z|z
  ·exact(e b z).imp (fun y=>d b (.inl y)) id
  ·exact .inl (d b (.inr (.inl z)))
  ·rcases f b z with y|y|y
   ·exact .inl (d b (.inr (.inr (y▸c))))
   ·exact y.elim
   ·exact .inr y
theorem mI{w0 w:World}{b:Nat->Prop}{d q p:Nat}{D:Dk}{s:St}{x:Ix}(h:J4 w0 w b d q p D s x)(g:I2)(c:¬n0 g∨(s.commits.length:Int)=x.len):
  CZ 18 #[pt p,.iface 34 (pt q),J3 g] w (RT (.int .i64 (if n0 g then 0 else 1)) w):=by
 obtain⟨S,rs,k,h,i⟩:=h;obtain⟨l,e,h1⟩:=h.st;obtain⟨j,f,h2⟩:=h.ix;by_cases a:n0 g
 ·rw[if_pos a];exact ql h2 h.iok h1 g a (c.resolve_left fun z=>z a)
 ·rw[if_neg a];refine kK fun W t=>?_
  have:=il (h2.turned t fun _ _ z=>z) h.iok (h1.turned t fun _ _ z=>z) g;rw[show H9 x s g=1 by unfold H9;rw[if_pos (.inl a)]]at this;exact this
theorem mJ{w0 w:World}{b:Nat->Prop}{v a y:Nat}{D:Dk}{s:St}{x:Ix}(h:gu w0 w b v a y D s x)(e:G0 x)(d:x.len<=s.commits.length)(g:I2)(c:¬n0 g∨(s.commits.length:Int)=x.len):
  CZ 50 #[pt y,pt a,J3 g] w (RT (.int .i64 (if n0 g then 0 else 1)) w):=by
 obtain⟨S,rs,l,h,j⟩:=h;obtain⟨m,f,h1⟩:=h.st;obtain⟨k,i,h2,-⟩:=h.ix;exact qj h1 h2 e d g c
variable {w0 w:World} {r d q p v a y Q:Nat} {L:ByteArray} {s:St}
theorem mK{f j:Nat->Prop}{g:I2}{T C:ByteArray}(h:BW w0 w f j r d q p v a y (I4 Q L) s noIx)(tab:∀W,TF w0 W->Ch.jr W∧Ch.ia W)(n:g.seed<4294967296)(F:n0 g)(h1:1<=s.commits.length)(h2:s.commits.length<=100)(U:L.size+1066+4179*s.commits.length<=Q)(B:iV (D9 s g 0 [])=.tuple #[.string T,.int .i64 0])(D:Ch.dE [(0,(s.commits.length:Int),Crc.sum (p6 T))]=.tuple #[.string C,.int .i64 0])(O:T.size<=66+4179*s.commits.length)(P:C.size<=1000)(k:D6 (I4 Q L) noIx s g=(jL Q L T C,⟨[(0,(s.commits.length:Int),Crc.sum (p6 T))],[D9 s g 0 []]⟩,0)):
  CZ 18 #[pt p,.iface 34 (pt q),J3 g] w (fun e l=>e=.returned (.int .i64 0)∧d7 f w l∧∀W,TF l W->CZ 50 #[pt y,pt a,J3 g] W fun e w2=>e=.returned (.int .i64 0)∧d7 (fun b=>f b∨j b) w w2∧eH w0 w2 r d q p v a y (jL Q L T C) s ⟨[(0,(s.commits.length:Int),Crc.sum (p6 T))],[D9 s g 0 []]⟩):=by
 have G:B9 s:=by obtain⟨_,_,_,z,_⟩:=h.pw;exact z.good
 have:=og h.pw tab (wV Q L) g n (by rw[k]) (by show¬(s.commits.length:Int)=0;omega) (by decide) (by rw[k];intro y o;simp only[List.mem_singleton]at o;rw[o];exact⟨Int.le_refl 0,(by decide:(0:Int)<1073741824)⟩);rw[k]at this;refine this.mono fun e l⟨k1,k2⟩=>⟨k1,k2.2,fun W t=>?_⟩
 have E:gu w0 W j v a y (I4 Q L) s noIx:=((h.dw.turned k2.2 (fun b z y=>h.dis b y z) fun b z=>(h.o1 b z).1)).turned t (fun _ _ z=>z) fun _ z=>z.elim
 obtain⟨_,_,_,K,_⟩:=h.pw;have J:=K.dok;obtain⟨S,rs,X,c,I⟩:=E;obtain⟨Y,N,b1⟩:=c.st;obtain⟨V,R,b2,b3⟩:=c.ix;obtain⟨rfl,rfl⟩:=b3 rfl;refine(qk (fun u M=>?_) c.disk J (fun b z=>(c.sb b z).2) b1 G b2 (fun z=>?_) g F n (by omega) B D (by omega) (by omega) (by omega)).mono fun e w2⟨x,A⟩=>?_
 ·refine(tab u (c.tw.comp M fun i H z=>?_)).1;rcases z with z|z|z
  ·exact z
  ·have:=(c.sb i z).1;omega
  ·rw[z]at H;have:=c.b2 y (by rw[b2.r1];decide);omega
 ·have:=(c.d1 y z).2;rw[b2.r1]at this;simp at this
 ·have m:=A.dw c I (by simp[noIx]);refine⟨x,((k2.2.mono fun _ _ z=>.inl z).tr (t.mono fun _ _ z=>z.elim)).tr (m.2.mono fun _ _ z=>.inr z),h.both k2 t m⟩
end Go.Proofs.YtofcogekgcgjhaaGreatDoor
namespace Go.Proofs.YtofcogekgcgjhaaGreatDoor
open Go.RowKit Go.Mine Go.Mine.Ac Go.Proofs.Tryz
def eL(w0 w:World)(r d q p v a y:Nat)(x:Ix):Prop:=∃D s,eH w0 w r d q p v a y D s x∧ir D.names D.seen∧D.off=false∧D.seen.length<=100000
theorem eL.still{w0 w w':World}{r d q p v a y:Nat}{x:Ix}(h:eL w0 w r d q p v a y x)(t:TF w w'):eL w0 w' r d q p v a y x:=by obtain⟨D,s,h,b⟩:=h;exact⟨D,s,h.still t,b⟩
variable {w0 w:World} {r d q p v a y j:Nat}
theorem yQ(h:P8 w0 w r d q p v a y 30 noIx)(tab:∀W,TF w0 W->Ch.jr W∧Ch.ia W)(g:I2)(R:g.seed<4294967296):
  ∃(k:Int)(x:Ix),∀c,TF w c->CZ 18 #[pt p,.iface 34 (pt q),J3 g] c fun e i=>e=.returned (.int .i64 k)∧d7 (gx w0 w r) c i∧∀W,TF i W->CZ 50 #[pt y,pt a,J3 g] W fun e w2=>e=.returned (.int .i64 k)∧d7 (gx w0 w r) c w2∧eL w0 w2 r d q p v a y x:=by
 obtain⟨L,s,u,G⟩:=h;have hx:=(gw u).1;have X:=G.commits;have Y:=G.size;by_cases m:¬n0 g∨(s.commits.length:Int)=noIx.len
 ·refine⟨if n0 g then 0 else 1,noIx,fun c j=>?_⟩;have B:=u.still j;obtain⟨l,t,O⟩:=id B;refine(mI O.pw g m).mono fun e i⟨k1,k2⟩=>⟨k1,k2.mono fun _ _ z=>z.elim,fun W o=>?_⟩
  have D:=(B.still k2).still o;obtain⟨U,V,P⟩:=id D;refine(mJ P.dw hx (by show(0:Int)<=_;omega) g m).mono fun e w2⟨A,n⟩=>⟨A,((k2.tr o).tr n).mono fun _ _ z=>z.elim,_,s,D.still n,En _ _,rfl,by simp[I4,n1]⟩
 ·have E:n0 g:=LK fun z=>m (.inl z)
  have F:1<=s.commits.length:=by
   have:¬(s.commits.length:Int)=0:=fun z=>m (.inr z)
   omega
  obtain⟨l,t,f⟩:=u
  obtain⟨T,C,N⟩:∃T C,∀c,TF w c->CZ 18 #[pt p,.iface 34 (pt q),J3 g] c (fun e i=>e=.returned (.int .i64 0)∧d7 l c i∧
   ∀W,TF i W->CZ 50 #[pt y,pt a,J3 g] W fun e w2=>e=.returned (.int .i64 0)∧d7 (fun b=>l b∨t b) c w2∧eH w0 w2 r d q p v a y (jL 16777216 L T C) s ⟨[(0,(s.commits.length:Int),Crc.sum (p6 T))],[D9 s g 0 []]⟩):=by
   have Q:=(gw ⟨l,t,f⟩).2.2;obtain⟨T,C,H,I,J,K,M⟩:=vT (q:=16777216) (L:=L) Q E F (by omega) (by omega);exact⟨T,C,fun c j=>mK (f.still j) tab R E F (by omega) (by omega) H I J K M⟩
  refine⟨0,⟨[(0,(s.commits.length:Int),Crc.sum (p6 T))],[D9 s g 0 []]⟩,fun c j=>(N c j).mono fun e i⟨k1,k2,k3⟩=>⟨k1,k2.mono fun b _ z=>⟨(f.o1 b z).1,(f.o1 b z).2,fun y=>f.n1 (y▸z)⟩,fun W o=>(k3 W o).mono fun e w2⟨A,n,S⟩=>⟨A,n.mono fun b _ z=>?_,_,s,S,AS _ _ _ _,rfl,by simp[jL,n3]⟩⟩⟩;rcases z with z|z
  ·exact⟨(f.o1 b z).1,(f.o1 b z).2,fun y=>f.n1 (y▸z)⟩
  ·exact⟨(f.o2 b z).1,(f.o2 b z).2,fun y=>f.n2 (y▸z)⟩
end Go.Proofs.YtofcogekgcgjhaaGreatDoor
namespace Go.Proofs.YtofcogekgcgjhaaGreatDoor
open Go.RowKit Go.Mine Go.Mine.Ac Go.Proofs.Tryz
structure Oc where
 K:Int
 ta:Option Addr
 tc:Nat
 t:List Ent
 ea:Option Addr
 pc:Nat
 c:Cm
 h1:Int
 h2:Int
 h3:Int
 h4:Nat
 n1:Int
 n2:Int
 tx:ByteArray
 f1:Int
 fa:Option Addr
 fl:Nat
 fc:Nat
def Oc.v(o:Oc):Value:=.agg #[.int .u8 o.K,.slice o.ta o.t.length o.tc,.slice o.ea o.c.par.length o.pc,.int .i64 o.c.tree,.int .i64 o.h1,.int .i64 o.h2,.int .i64 o.h3,.int .u32 o.h4,.int .i64 o.n1,.int .i64 o.n2,.string o.tx,.int .i64 o.f1,.slice o.fa o.fl o.fc]
structure vU (w:World) (S:Nat->Prop) (g off:Nat) (o:Oc):Prop where
 k0:w.cell? ⟨g,off,none⟩=some (.int .u8 o.K)
 k1:w.cell? ⟨g,off+1,none⟩=some (.slice o.ta o.t.length o.tc)
 k2:w.cell? ⟨g,off+2,none⟩=some (.slice o.ea o.c.par.length o.pc)
 k3:w.cell? ⟨g,off+3,none⟩=some (.int .i64 o.c.tree)
 k4:w.cell? ⟨g,off+4,none⟩=some (.int .i64 o.h1)
 k5:w.cell? ⟨g,off+5,none⟩=some (.int .i64 o.h2)
 k6:w.cell? ⟨g,off+6,none⟩=some (.int .i64 o.h3)
 k7:w.cell? ⟨g,off+7,none⟩=some (.int .u32 o.h4)
 k8:w.cell? ⟨g,off+8,none⟩=some (.int .i64 o.n1)
 k9:w.cell? ⟨g,off+9,none⟩=some (.int .i64 o.n2)
 k10:w.cell? ⟨g,off+10,none⟩=some (.string o.tx)
 k11:w.cell? ⟨g,off+11,none⟩=some (.int .i64 o.f1)
 k12:w.cell? ⟨g,off+12,none⟩=some (.slice o.fa o.fl o.fc)
 lt:g<w.heap.size
theorem vU.turned{w w':World}{S T:Nat->Prop}{g off:Nat}{o:Oc}(h:vU w S g off o)(t:d7 T w w')(a:¬T g):vU w' S g off o:=by
 have e:∀k,w'.cell? ⟨g,k,none⟩=w.cell? ⟨g,k,none⟩:=fun k=>World.cell?_of_block (w':=w') (t.block g h.lt a)
 exact⟨by rw[e];exact h.k0,by rw[e];exact h.k1,by rw[e];exact h.k2,by rw[e];exact h.k3,by rw[e];exact h.k4,by rw[e];exact h.k5,by rw[e];exact h.k6,by rw[e];exact h.k7,by rw[e];exact h.k8,by rw[e];exact h.k9,by rw[e];exact h.k10,by rw[e];exact h.k11,by rw[e];exact h.k12,LC h.lt t.size⟩
structure mL (w:World) (S:Nat->Prop) (o:Oc):Prop where
 kn:0<=o.K
 tree:H1 w S o.ta o.tc o.t
 par:p7 w S o.ea o.pc o.c.par
 tl:o.t.length<=1000000000
 pl:o.c.par.length<=1000000000
theorem mL.turned{w w':World}{S T:Nat->Prop}{o:Oc}(h:mL w S o)(t:d7 T w w')(a:∀b,S b->¬T b):mL w' S o:=⟨h.kn,h.tree.turned t a,h.par.turned t a,h.tl,h.pl⟩
variable {w0 w:World} {r d q p v a y j:Nat} {x:Ix}
theorem P8.mono{k:Nat}(h:P8 w0 w r d q p v a y j x)(b:j<=k):P8 w0 w r d q p v a y k x:=by obtain⟨L,s,h,c⟩:=h;exact⟨L,s,h,c.mono b⟩
theorem Cj{S0:Nat->Prop}{o:Oc}(h:P8 w0 w r d q p v a y j x)(g:j<=40)(c:mL w S0 o)(f:∀b,S0 b->b<w0.heap.size)(l:Int.tmod o.K 12<4):
  CZ 26 #[pt r,o.v] w fun e w'=>e=.returned (.bool true)∧d7 (gx w0 w r) w w'∧P8 w0 w' r d q p v a y (j+1) x:=by
 have k:0<=Int.tmod o.K 12:=Int.tmod_nonneg _ c.kn;by_cases i:Int.tmod o.K 12=0
 ·exact yO h g c.tree f c.tl i
 ·exact tj h g c.par f c.pl ⟨by omega,by omega⟩
end Go.Proofs.YtofcogekgcgjhaaGreatDoor
namespace Go.Proofs.YtofcogekgcgjhaaGreatDoor
open Go.RowKit Go.Mine Go.Mine.Ac Go.Proofs.Tryz
def Sp(W:World)(S:Nat->Prop)(a:Option Addr)(n cap:Nat):Prop:=∃xs,Sl W S 3 1 (.slice a n cap) xs n
theorem Sp.of{W:World}{S:Nat->Prop}{a:Option Addr}{n cap:Nat}{xs:List Value}(h:Sl W S 3 1 (.slice a n cap) xs n):Sp W S a n cap:=⟨xs,h⟩
theorem Sp.put{W:World}{S:Nat->Prop}{a:Option Addr}{n cap i:Nat}(h:Sp W S a n cap)(l:i<n)(b:Value):∃g off,a=some ⟨g,off,none⟩∧S g∧g<W.heap.size∧n<=cap∧cap<=maxLen∧(∃c,W.cell? ⟨g,off+i,none⟩=some c)∧W.frozen? ⟨g,off+i,none⟩=false∧Sp (W.setCell ⟨g,off+i,none⟩ b) S a n cap∧d7 S W (W.setCell ⟨g,off+i,none⟩ b):=by
 obtain⟨xs,m,h⟩:=h;rcases h with⟨-,j⟩|⟨g,off,f,d,e,h1,h2,h3,h4,k,-⟩
 ·omega
 ·simp only[Value.slice.injEq,true_and]at e;obtain⟨rfl,rfl⟩:=e;refine⟨g,off,rfl,h1,i6 h2,h3,h4,⟨d[off+i]'(by omega),g9 h2 _ _ (Array.getElem?_eq_getElem (by omega))⟩,j7 h2 _,⟨_,?_,.inr ⟨g,off,_,_,rfl,h1,j8 h2 b,h3,h4,by simp;omega,rfl⟩⟩,(d7.refl S W).set (p:=⟨g,off+i,none⟩) h1 b⟩;simp;omega
theorem ts{w0 w:World}{r d q p v a y:Nat}{x:Ix}(h:eL w0 w r d q p v a y x):CZ 49 #[pt r,.slice (some ⟨w.heap.size,0,none⟩) 1 1] (w.alloc (.cells #[.string ⟨#[97]⟩] 9)) (RT (.bool true) w):=by have t:TF w (w.alloc (.cells #[.string ⟨#[97]⟩] 9)):=TA;obtain⟨D,s,f,h1,h2,h3⟩:=h.still t;refine(AO (SP:=fun _=>True) (path:=⟨#[97]⟩) f h1 h2 h3 (by decide) ⟨rfl,.inr ⟨_,0,1,_,rfl,trivial,i8 _ _,by omega,by decide,by decide,rfl⟩⟩).mono fun e w'⟨b,c⟩=>⟨b,t.tr c⟩
theorem Ck{w0 w:World}{r d q p v a y:Nat}{x:Ix}(h:eL w0 w r d q p v a y x):w.heap[r]?=some (.cells #[pt d,pt q,pt p,pt v,pt a,pt y] 39):=by obtain⟨D,s,⟨c,e,b⟩,h1,h2,h3⟩:=h;exact b.rb
theorem qm{w0 w:World}{r d q p v a y:Nat}{x:Ix}(h:eL w0 w r d q p v a y x):0<=x.len∧x.len<=524288∧CZ 15 #[pt p] w (RT (.int .i64 x.len) w):=by obtain⟨D,s,b,-⟩:=h;have:=Q9 (gw b).1 x.links.length;rw[List.take_length]at this;exact⟨this.1,this.2,AN b⟩
theorem AT{w0 w:World}{r d q p v a y k:Nat}{x:Ix}(h:eL w0 w r d q p v a y x)(i:(k:Int)<x.len):∃b:Rw,b.par.length<=16∧CZ 20 #[pt p,.int .i64 k] w (mw w b):=by obtain⟨D,s,c,-⟩:=h;have f:=(gw c).1;obtain⟨g,b,e⟩:=mp f (n:=k) (by omega) i;obtain⟨j,l,h⟩:=c;exact⟨b,(pZ f e).1,wW h.pw e⟩
theorem DF{a b c d e f g h i j:Prop}(z:(a∧b∧c∧d)∧(e∧f∧g∧h)∧i∧j):a∧b∧c∧d∧e∧f∧g∧h:=⟨z.1.1,z.1.2.1,z.1.2.2.1,z.1.2.2.2,z.2.1.1,z.2.1.2.1,z.2.1.2.2.1,z.2.1.2.2.2⟩
theorem kL(l:List Oc)(oa:Option Addr)(oc:Nat)(g:I2)(a6:g.seed<4294967296)(w:World)(S0:Nat->Prop)(hS:∀b,S0 b->b<w.heap.size)(aG:l.length<=oc)(a2:oc<=maxLen)(ai:0<l.length->∃g off,oa=some ⟨g,off,none⟩∧g<w.heap.size∧∀(i:Nat)(o:Oc),l[i]?=some o->vU w S0 g (off+i*13) o)(aE:∀o∈l,mL w S0 o)
  (tab:∀W,TF w W->Ch.jr W∧Ch.ia W):CZ 8 #[.slice oa l.length oc,J3 g] w (RT (.bool true) w):=by
 obtain⟨Z,hZ⟩:∃Z:Ending->World->Prop,Z=(RT (.bool true) w):=⟨_,rfl⟩;have HZ:Hid (Z=(RT (.bool true) w)):=hZ;rw[<-hZ];obtain⟨j,hV⟩:=EX (w.alloc (.cells #[.int .i64 g.h,.int .i64 g.p,.int .i64 g.m,.int .u32 g.seed] 24));have aS:Hid (j=w.alloc (.cells #[.int .i64 g.h,.int .i64 g.p,.int .i64 g.m,.int .u32 g.seed] 24)):=hV;obtain⟨tV,xV⟩:=A0 (w:=w) (.cells #[.int .i64 g.h,.int .i64 g.p,.int .i64 g.m,.int .u32 g.seed] 24);rw[<-hV]at tV xV;have TV:Hid (TF w j):=tV;obtain⟨N,hN⟩:=EX l.length;obtain⟨C,hM⟩:=EX (min N 30);have HM:Hid (C<=30∧C<=N):=i7 (by omega);rw[<-hN]at aG ai ⊢;have al:Hid (CZ 12 #[] j (RT (.bool true) j)):=i7 (th j fun W t=>tab W (tV.tr t));have am:Hid (∀W,CZ 14 #[.int .i64 16777216] W fun e w'=>∃r d q p v a y,e=.returned (.tuple #[pt r,.bool true])∧P8 W w' r d q p v a y 0 noIx∧TF W w'∧W.heap.size<=r):=i7 fun W=>(qh 16777216 (by decide) W).mono fun e w'⟨r,h1,d,q,p,v,a,y,h2⟩=>by
  have h3:TF W w':=by obtain⟨O1,O2,h⟩:=h2;exact h.pw.new_le
  have h4:W.heap.size<=r:=by obtain⟨O1,O2,h⟩:=h2;exact h.lr
  exact⟨r,d,q,p,v,a,y,h1,⟨emp,noSt,h2,⟨rfl,by simp[esz],by simp[noSt],by simp[noSt]⟩⟩,h3,h4⟩
 have mm:min (N:Int) 30=(C:Int):=by omega
 have mx:max (C:Int) 0=(C:Int):=by omega
 have HN:Hid (N=l.length):=hN;have an:Hid (∀W,TF j W->∀i,i<C->∃o g off,l[i]?=some o∧oa=some ⟨g,off,none⟩∧vU W S0 g (off+i*13) o∧mL W S0 o):=i7 fun W t i hi=>by
  have U:i<l.length:=by omega
  obtain⟨g,off,e1,e2,e3⟩:=ai (by omega);exact⟨_,g,off,LB U,e1,(e3 i _ (LB U)).turned (tV.tr t) id,(aE _ (List.getElem_mem U)).turned (tV.tr t) fun _ _ z=>z⟩
 have a9:Hid (N<=oc∧oc<=maxLen):=i7 ⟨aG,a2⟩;have HS:Hid (∀W,TF j W->∀b,S0 b->b<W.heap.size):=i7 fun W t b z=>by have:=hS b z;have:=tV.size;have:=t.size;omega
 clear hZ hV hN hM ai aE;go_enter func8,ntmps8;go_wp2_with fail;rw[<-aS.o]
 go_wp2_with(first
  |(go_fit al.o;rintro e A⟨rfl,t1⟩;replace t1:=i7 t1)
  |(go_fit(am.o _);rintro e w2⟨r,d,q,p,v,a,y,rfl,B2,t2,lr⟩;replace B2:=i7 B2;replace t2:=i7 t2;replace lr:=i7 lr))
 have T1:Hid (TF j A):=i7 t1.o;have B0:Hid (∃i:Nat,i+C=C∧Value.int .i64 0=.int .i64 (i:Nat)∧P8 A w2 r d q p v a y i noIx∧TF j w2):=i7 ⟨0,by omega,rfl,B2.o,t1.o.tr t2.o⟩;clear B2 t2 mm mx;go_loopg[33] C (fun g M wr=>∃i:Nat,i+g=C∧M=.int .i64 (i:Nat)∧P8 A wr r d q p v a y i noIx∧TF j wr)
 case atStart=>exact B0.o
 case round=>
  obtain⟨i,aC,rfl,hB,E⟩:=hrel;have G:Hid (i+gk=C):=aC;have BB:Hid (P8 A wr r d q p v a y i noIx):=hB;have J:Hid (TF j wr):=E;clear B0 aC hB E;by_cases hi:i<C
  ·have e1:decide ((i:Int)<(C:Int))=true:=LX (by omega);have e2:decide (i<C)=true:=LX hi;obtain⟨o,g',off,-,rfl,ho,aJ⟩:=an.o wr J.o i hi;have OI:Hid (mL wr S0 o):=aJ;have HW:Hid (wrap64 ((i:Int)+1)=((i+1:Nat):Int)):=i7 (by have:=HM.o;simp[wrap64];omega);obtain⟨B,ag⟩:=EX (wr.alloc (.cells #[.int .u8 o.K,.slice o.ta o.t.length o.tc,.slice o.ea o.c.par.length o.pc,.int .i64 o.c.tree,.int .i64 o.h1,.int .i64 o.h2,.int .i64 o.h3,.int .u32 o.h4,.int .i64 o.n1,.int .i64 o.n2,.string o.tx,.int .i64 o.f1,.slice o.fa o.fl o.fc] 67));have ap:Hid (B=wr.alloc (.cells #[.int .u8 o.K,.slice o.ta o.t.length o.tc,.slice o.ea o.c.par.length o.pc,.int .i64 o.c.tree,.int .i64 o.h1,.int .i64 o.h2,.int .i64 o.h3,.int .u32 o.h4,.int .i64 o.n1,.int .i64 o.n2,.string o.tx,.int .i64 o.f1,.slice o.fa o.fl o.fc] 67)):=ag;have tB:TF wr B:=by rw[ag];exact TA
   have TB:Hid (TF wr B):=tB;have aR:Hid (Int.tmod o.K 12<4->CZ 26 #[pt r,.agg #[.int .u8 o.K,.slice o.ta o.t.length o.tc,.slice o.ea o.c.par.length o.pc,.int .i64 o.c.tree,.int .i64 o.h1,.int .i64 o.h2,.int .i64 o.h3,.int .u32 o.h4,.int .i64 o.n1,.int .i64 o.n2,.string o.tx,.int .i64 o.f1,.slice o.fa o.fl o.fc]] B fun e w'=>e=.returned (.bool true)∧TF j w'∧P8 A w' r d q p v a y (i+1) noIx):=i7 fun R=>by
    refine(Cj (BB.o.still tB) (by have:=HM.o;omega) (OI.o.turned tB fun _ _ z=>z) (HS.o A T1.o) R).mono fun e w'⟨g1,g2,g3⟩=>⟨g1,(J.o.tr tB).comp g2 fun b hb z=>?_,g3⟩
    have:=T1.o.size;rcases z with z|z
    ·exact z
    ·have:=z.1;omega
   obtain⟨k0,k1,k2,k3,k4,k5,k6,k7,k8,k9,k10,k11,k12,bb⟩:=ho;clear ag tB aJ;by_cases R:Int.tmod o.K 12<4
   ·have d1:decide (Int.tmod o.K 12<4)=true:=LX R;have ae:=aR.o R;replace ae:=i7 ae;go_wp2_with fail;rw[<-ap.o];go_wp2_with(go_fit ae.o;rintro e w3⟨rfl,t3,y3⟩;replace t3:=i7 t3;replace y3:=i7 y3);rw[HW.o];go_roundg (gk-1)
    case rel=>exact⟨i+1,by have:=G.o;omega,rfl,y3.o,t3.o⟩
    case measure=>have:=G.o;omega
   ·have d1:decide (Int.tmod o.K 12<4)=false:=LD R;go_wp2_with fail;rw[<-ap.o];rw[HW.o];go_roundg (gk-1)
    case rel=>exact⟨i+1,by have:=G.o;omega,rfl,(BB.o.still TB.o).mono (Nat.le_succ _),J.o.tr TB.o⟩
    case measure=>have:=G.o;omega
  ·have e1:decide ((i:Int)<(C:Int))=false:=LD (by omega);have e2:decide (i<C)=false:=LD hi;have ba:=HM.o;have a1:Hid (TF w A):=i7 (TV.o.tr T1.o);have BF:Hid (P8 A wr r d q p v a y 30 noIx):=i7 (BB.o.mono (by have:=G.o;omega));obtain⟨k,x,hU⟩:=yQ BF.o (fun W t=>tab W (a1.o.tr t)) g a6;have HU:Hid (∀j,TF wr j->CZ 18 #[pt p,.iface 34 (pt q),.agg #[.int .i64 g.h,.int .i64 g.p,.int .i64 g.m,.int .u32 g.seed]] j fun e aO=>e=.returned (.int .i64 k)∧d7 (gx A wr r) j aO∧∀W,TF aO W->CZ 50 #[pt y,pt a,.agg #[.int .i64 g.h,.int .i64 g.p,.int .i64 g.m,.int .u32 g.seed]] W fun e aP=>e=.returned (.int .i64 k)∧d7 (gx A wr r) j aP∧eL A aP r d q p v a y x):=i7 hU
   have aK:=BB.o.rb;have aB:=j9 xV J.o id;have HB:Hid (∀W,d7 (gx A wr r) wr W->(W.cell? ⟨r,1,none⟩=some (pt q)∧W.cell? ⟨r,2,none⟩=some (pt p)∧W.cell? ⟨r,4,none⟩=some (pt a)∧W.cell? ⟨r,5,none⟩=some (pt y))∧(W.cell? ⟨w.heap.size,0,none⟩=some (.int .i64 g.h)∧W.cell? ⟨w.heap.size,1,none⟩=some (.int .i64 g.p)∧W.cell? ⟨w.heap.size,2,none⟩=some (.int .i64 g.m)∧W.cell? ⟨w.heap.size,3,none⟩=some (.int .u32 g.seed))∧r<W.heap.size∧w.heap.size<W.heap.size):=i7 fun W t=>by
    have b1:=j9 aK t fun z=>z.2.2 rfl
    have b2:=j9 aB t fun z=>by have h1:=i6 xV;have h2:=T1.o.size;have h3:=z.1;omega
    exact⟨⟨g9 b1 1 _ rfl,g9 b1 2 _ rfl,g9 b1 4 _ rfl,g9 b1 5 _ rfl⟩,⟨g9 b2 0 _ rfl,g9 b2 1 _ rfl,g9 b2 2 _ rfl,g9 b2 3 _ rfl⟩,i6 b1,i6 b2⟩
   have FR:Hid (∀W,d7 (gx A wr r) wr W->TF j W):=i7 fun W t=>J.o.comp t fun b hb z=>by
    have h2:=T1.o.size;rcases z with z|z
    ·exact z
    ·have:=z.1;omega
   clear hU aK aB;go_wp2_with fail;have Q0:Hid (TF wr wr.drew):=i7 TD;have L0:=HB.o wr.drew (Q0.o.mono fun _ _ z=>z.elim);obtain⟨⟨l1,l2,l3,l4⟩,⟨l5,l6,l7,l8⟩,l9,a7⟩:=L0
   go_region_held3 (fun W=>W.cell? ⟨r,1,none⟩=some (pt q)∧W.cell? ⟨r,2,none⟩=some (pt p)∧W.cell? ⟨r,4,none⟩=some (pt a)∧W.cell? ⟨r,5,none⟩=some (pt y)∧W.cell? ⟨w.heap.size,0,none⟩=some (.int .i64 g.h)∧W.cell? ⟨w.heap.size,1,none⟩=some (.int .i64 g.p)∧W.cell? ⟨w.heap.size,2,none⟩=some (.int .i64 g.m)∧W.cell? ⟨w.heap.size,3,none⟩=some (.int .u32 g.seed))
    (first|(with_reducible exact Kb.o)|(with_reducible exact Ka.o)|(exact⟨l1,l2,l3,l4,l5,l6,l7,l8⟩)|go_keep)
    (first
     |(go_fit(HU.o _ Q0.o);rintro e w3⟨rfl,t3,c3⟩;have Ka:=i7 (DF (HB.o w3 ((Q0.o.mono fun _ _ z=>z.elim).tr t3))))
     |(go_fit(c3 _ TQ);rintro e w4⟨rfl,t4,c4⟩;have Kb:=i7 (DF (HB.o w4 ((Q0.o.mono fun _ _ z=>z.elim).tr t4))))
     |fail)
   have C4:Hid (eL A w4 r d q p v a y x∧TF j w4):=i7 ⟨c4,FR.o w4 ((Q0.o.mono fun _ _ z=>z.elim).tr t4)⟩;have kk:(k !=k)=false:=by simp
   clear c3 c4 t3 t4 Ka Kb l1 l2 l3 l4 l5 l6 l7 l8 l9 a7 BF HU FR HB Q0 BB J an am al;go_wp2;have D0:Hid (∃m:Nat,m+2=2∧Value.int .i64 0=.int .i64 m∧eL A w4 r d q p v a y x∧TF j w4):=i7 ⟨0,rfl,rfl,C4.o⟩;clear C4;go_loopg[70] 2 (fun g M wr=>∃m:Nat,m+g=2∧M=.int .i64 m∧eL A wr r d q p v a y x∧TF j wr)
   case atStart=>exact D0.o
   case round=>
    obtain⟨m,aH,rfl,az,E⟩:=hrel;have GJ:Hid (m+gk=2):=aH;have TO:Hid (eL A wr r d q p v a y x):=az;have J:Hid (TF j wr):=E;clear D0 aH az E;obtain⟨Q,rfl⟩:∃x:World,x=wr:=⟨wr,rfl⟩;obtain⟨gj,rfl⟩:∃x:Nat,x=gk:=⟨gk,rfl⟩;by_cases hm:m<2
    ·have e1:decide ((m:Int)<2)=true:=LX (by omega);have CT:Hid (CZ 49 #[pt r,.slice (some ⟨Q.heap.size,0,none⟩) 1 1] (Q.alloc (.cells #[.string ⟨#[97]⟩] 9)) (RT (.bool true) Q)):=i7 (ts TO.o);have au:Hid (∀W,TF Q W->W.cell? ⟨r,2,none⟩=some (pt p)∧r<W.heap.size):=i7 fun W t=>by have b:=j9 (Ck TO.o) t id;exact⟨g9 b 2 _ rfl,i6 b⟩
     obtain⟨u,ah⟩:=EX ((I9 x).length);have ar:Hid (u<=8):=i7 (by obtain⟨D,s,hb,-⟩:=TO.o;have h1:=(gw hb).1;rw[ah,fk h1,List.length_map];exact h1.many);have CL:Hid (∀W,TF Q W->CZ 16 #[pt p] W fun e w'=>∃X Y,e=.returned (.slice X u Y)∧Sp w' (fun b=>W.heap.size<=b) X u Y∧TF W w'):=i7 fun W t=>by
      obtain⟨D,s,hb,-⟩:=TO.o.still t;refine(oj hb).mono fun e w'⟨a,c,g1,g2,g3⟩=>?_
      rw[<-ah]at g1 g2;exact⟨a,c,g1,Sp.of g2,g3⟩
     clear ah
     go_wp2_with(first
      |(go_fit CT.o;rintro e f⟨rfl,S⟩;obtain⟨r2,be⟩:=au.o f S;replace S:=i7 S)
      |(go_fit(CL.o _ S.o);rintro e w6⟨X,Y,rfl,ys,t6⟩;replace t6:=i7 t6;replace ys:=i7 ys))
     have E0:Hid (∃n:Nat,n+u=u∧Value.int .i64 0=.int .i64 n∧Sp w6 (fun b=>f.heap.size<=b) X u Y∧d7 (fun b=>f.heap.size<=b) f w6):=i7 ⟨0,by omega,rfl,ys.o,t6.o.mono fun _ _ z=>z.elim⟩;go_loopg[83] u (fun g M wr=>∃n:Nat,n+g=u∧M=.int .i64 n∧Sp wr (fun b=>f.heap.size<=b) X u Y∧d7 (fun b=>f.heap.size<=b) f wr)
     case atStart=>exact E0.o
     case round=>
      obtain⟨n,aI,rfl,ab,E⟩:=hrel;have GN:Hid (n+gk=u):=aI;have T7:Hid (d7 (fun b=>f.heap.size<=b) f wr):=E;have SP:Hid (Sp wr (fun b=>f.heap.size<=b) X u Y):=ab;clear E0 aI ab E ys;by_cases hn:n<u
      ·have e3:decide ((n:Int)<(u:Int))=true:=LX (by omega);have e4:decide (n<u)=true:=LX hn;have HW:Hid (wrap64 ((n:Int)+1)=((n+1:Nat):Int)):=i7 (by have:=ar.o;simp[wrap64];omega);obtain⟨gb,off,rfl,q1,q2,q3,q4,⟨cc,q5⟩,q6,q7,q8⟩:=Sp.put SP.o hn (.int .i64 (-1));have Q7:=i7 (And.intro q7 q8);clear q7 q8;go_wp2_with fail;rw[HW.o];go_roundg (gk-1)
       case measure=>have:=GN.o;omega
       case rel=>exact⟨n+1,by have:=GN.o;omega,rfl,Q7.o.1,T7.o.tr Q7.o.2⟩
      ·have e3:decide ((n:Int)<(u:Int))=false:=LD (by omega);have e4:decide (n<u)=false:=LD hn;have aa:Hid (∀W,d7 (fun b=>f.heap.size<=b) f W->TF Q W):=i7 fun W t=>S.o.comp t fun b hb z=>z.elim id fun z=>by have:=S.o.size;have z':f.heap.size<=b:=z;omega
       obtain⟨xs,SL⟩:=SP.o;have aV:Hid (Sl (wr.alloc (.cells #[.int .i64 (-2)] 3)) _ 3 1 (.slice X u Y) xs u):=i7 (SL.turned (T:=fun _=>False) TA fun _ _ z=>z);have aY:=i7 (R6 (P:=prog) (te:=3) underlying41 (.int .i64 (-2)) rfl wr);have m1:Hid (u+1<=maxLen∧(u+1)*8<=140737488355328):=i7 (by have:=ar.o;simp only[maxLen];omega);obtain⟨F,ay⟩:∃k:Nat,x.len=(k:Int):=⟨x.len.toNat,by have:=(qm TO.o).1;omega⟩;have af:Hid (x.len=(F:Int)∧F<=524288):=i7 ⟨ay,by have:=(qm TO.o).2.1;omega⟩;have aQ:Hid (∀W,d7 (fun b=>f.heap.size<=b) f W->CZ 15 #[pt p] W (RT (.int .i64 F) W)):=i7 fun W t=>by have:=(qm (TO.o.still (aa.o W t))).2.2;rwa[af.o.1]at this
       have av:Hid (∀W,d7 (fun b=>f.heap.size<=b) f W->W.cell? ⟨r,2,none⟩=some (pt p)∧r<W.heap.size):=i7 fun W t=>au.o W (aa.o W t)
       clear SL ay SP
       go_wp2_with(first
        |(at_builtin;refine m7 rfl _ _ 41 41 rfl aV.o underlying41 info3i rfl (by decide) rfl (.slice (some ⟨wr.heap.size,0,none⟩) 1 1) rfl aY.o m1.o.1 m1.o.2 ?_;intro v8 w8 a4 aM;have T8:Hid (d7 (fun b=>f.heap.size<=b) f w8):=i7 ((T7.o.new _).tr aM);clear a4 aM;obtain⟨bc,bf⟩:=av.o w8 T8.o)
        |(go_fit(aQ.o _ T8.o);rintro e w9⟨rfl,t9⟩;have T9:Hid (d7 (fun b=>f.heap.size<=b) f w9):=i7 (T8.o.tr (t9.mono fun _ _ z=>z.elim));clear t9))
       go_loopg[98] F (fun g M wr=>∃k:Nat,k+g=F∧M=.int .i64 k∧d7 (fun b=>f.heap.size<=b) f wr)
       case atStart=>exact⟨0,Nat.zero_add _,rfl,T9.o⟩
       case round=>
        obtain⟨k,aF,rfl,E⟩:=hrel;have GK:Hid (k+gk=F):=aF;have TK:Hid (d7 (fun b=>f.heap.size<=b) f wr):=E;obtain⟨bd,bg⟩:=av.o wr E;clear aF E;obtain⟨V,rfl⟩:∃x:World,x=wr:=⟨wr,rfl⟩;obtain⟨gq,rfl⟩:∃x:Nat,x=gk:=⟨gk,rfl⟩;by_cases R:k<F
        ·have e5:decide ((k:Int)<(F:Int))=true:=LX (by omega);have e6:decide (k<F)=true:=LX R;have aU:Hid (wrap64 ((k:Int)+1)=((k+1:Nat):Int)):=i7 (by have:=af.o.2;simp[wrap64];omega);obtain⟨O,a3,aL⟩:=AT (k:=k) (TO.o.still (aa.o V TK.o)) (by rw[af.o.1];omega);obtain⟨n2,aj⟩:=EX O.par.length;have aq:Hid (n2<=16):=i7 (by omega);have CR:Hid (CZ 20 #[pt p,.int .i64 k] V fun e w'=>∃H pc,e=.returned (.tuple #[.agg #[.slice H n2 pc,.int .i64 O.tree,.int .i64 O.gen,.int .i64 O.state,.string O.bits],.bool true])∧Sp w' (fun b=>V.heap.size<=b∧b<w'.heap.size) H n2 pc∧TF V w'):=i7 (aL.mono fun e w'⟨a,c,q1,q2,q3⟩=>by rw[<-aj]at q2;refine⟨a,c,?_,Sp.of q2.bound,q3⟩;rw[q1,aj]);clear aL a3 aj;generalize O.tree=z1 at *;generalize O.gen=z2 at *;generalize O.state=z3 at *;generalize O.bits=z4 at *;go_wp2_with(go_fit CR.o;rintro e wa⟨H,pc,rfl,sa,ta⟩;have SA:=i7 sa;have aZ:=i7 ta;clear sa ta);obtain⟨V2,aA⟩:=EX (wa.alloc (.cells #[.slice H n2 pc,.int .i64 z1,.int .i64 z2,.int .i64 z3,.string z4] 48));obtain⟨ad,ak⟩:=A0 (w:=wa) (.cells #[.slice H n2 pc,.int .i64 z1,.int .i64 z2,.int .i64 z3,.string z4] 48);rw[<-aA]at ad ak ⊢;obtain⟨I,ac⟩:∃I:Nat->Prop,I=fun b=>V.heap.size<=b∧b<wa.heap.size:=⟨_,rfl⟩
         have SV:Hid (Sp V2 I H n2 pc):=i7 (by rw[ac];exact SA.o.imp fun _ q=>q.turned ad fun _ _ z=>z);have ao:Hid (∀W,d7 I V2 W->(W.cell? ⟨wa.heap.size,0,none⟩=some (.slice H n2 pc)∧wa.heap.size<W.heap.size)∧d7 (fun b=>f.heap.size<=b) f W):=i7 fun W t=>by
          have b:=j9 ak t fun z=>by rw[ac]at z;have:=z.2;omega
          refine⟨⟨g9 b 0 _ rfl,i6 b⟩,(TK.o.tr ((aZ.o.trans ad fun _ _ z=>z).mono fun _ _ z=>z.elim)).tr (t.mono fun b _ z=>?_)⟩;rw[ac]at z;exact LR TK.o.size z.1
         clear aA ad ak ac;go_loopg[113] n2 (fun g M wr=>∃i:Nat,i+g=n2∧M=.int .i64 (i:Nat)∧Sp wr I H n2 pc∧d7 I V2 wr)
         case atStart=>exact⟨0,Nat.zero_add _,rfl,SV.o,TQ⟩
         case round=>
          obtain⟨L,aD,rfl,ab,E⟩:=hrel;have GI:Hid (L+gk=n2):=aD;have TN:Hid (d7 I V2 wr):=E;have ax:Hid (Sp wr I H n2 pc):=ab;obtain⟨⟨k0,kl⟩,-⟩:=ao.o wr E;clear aD ab E SV;by_cases U:L<n2
          ·have e7:decide ((L:Int)<(n2:Int))=true:=LX (by omega);have e8:decide (L<n2)=true:=LX U;have aT:Hid (wrap64 ((L:Int)+1)=((L+1:Nat):Int)):=i7 (by have:=aq.o;simp[wrap64];omega);obtain⟨gb,off,rfl,q1,q2,q3,q4,⟨cc,q5⟩,q6,q7,q8⟩:=Sp.put ax.o U (.int .i64 (-3));have Q7:=i7 (And.intro q7 q8);clear q7 q8;go_wp2_with fail;rw[aT.o];go_roundg (gk-1)
           case measure=>have:=GI.o;omega
           case rel=>exact⟨L+1,by have:=GI.o;omega,rfl,Q7.o.1,TN.o.tr Q7.o.2⟩
          ·have e7:decide ((L:Int)<(n2:Int))=false:=LD (by omega);have e8:decide (L<n2)=false:=LD U;obtain⟨a8,aw⟩:=ax.o;have aW:Hid (Sl (wr.alloc (.cells #[.int .i64 (-4)] 3)) _ 3 1 (.slice H n2 pc) a8 n2):=i7 (aw.turned (T:=fun _=>False) TA fun _ _ z=>z);have aX:=i7 (R6 (P:=prog) (te:=3) underlying41 (.int .i64 (-4)) rfl wr);have m2:Hid (n2+1<=maxLen∧(n2+1)*8<=140737488355328):=i7 (by have:=aq.o;simp only[maxLen];omega);clear aw;go_wp2_with(at_builtin;refine m7 rfl _ _ 41 41 rfl aW.o underlying41 info3i rfl (by decide) rfl (.slice (some ⟨wr.heap.size,0,none⟩) 1 1) rfl aX.o m2.o.1 m2.o.2 ?_;intro vb wb a5 aN;have a0:Hid (d7 I V2 wb):=i7 ((TN.o.new _).tr aN);clear a5 aN);rw[aU.o];go_roundg (gq-1)
           case measure=>have:=GK.o;omega
           case rel=>exact⟨k+1,by have:=GK.o;omega,rfl,(ao.o wb a0.o).2⟩
        ·have e5:decide ((k:Int)<(F:Int))=false:=LD (by omega);have e6:decide (k<F)=false:=LD R;go_wp2_with fail;go_roundg (gj-1)
         case measure=>have:=GJ.o;omega
         case rel=>exact⟨m+1,by have:=GJ.o;omega,by simp,TO.o.still (aa.o V TK.o),J.o.tr (aa.o V TK.o)⟩
    ·have e1:decide ((m:Int)<2)=false:=LD (by omega);have CT:Hid (CZ 49 #[pt r,.slice (some ⟨Q.heap.size,0,none⟩) 1 1] (Q.alloc (.cells #[.string ⟨#[97]⟩] 9)) (RT (.bool true) Q)):=i7 (ts TO.o);go_wp2_with(go_fit CT.o;rintro e f⟨rfl,S⟩);rw[HZ.o];exact⟨rfl,(TV.o.tr J.o).tr S⟩
end Go.Proofs.YtofcogekgcgjhaaGreatDoor
namespace Go.Proofs.YtofcogekgcgjhaaGreatDoor
open Go.ChangeShapes Go.WideShapes Go.ChangeAt Go.RowKit Go.Deep Go.Mine Go.Mine.Ac Go.Proofs.Tryz
theorem AU{H:Type}(d:DataW H):1<=Rows.uptoBulk d:=by
 cases d with|lit l=>cases l<;>simp[Rows.uptoBulk]|_=>simp[Rows.uptoBulk]
theorem jm{H:Type}{d:DataW H}:∀{l:List (DataW H)},d∈l->Rows.uptoBulk d<=Rows.uptoBulkAll l
 | [],h=>by simp at h
 |x::r,h=>by
  simp only[Rows.uptoBulkAll];rcases List.mem_cons.1 h with rfl|h
  ·omega
  ·have:=jm h;omega
theorem tC{H:Type}:∀(l:List (DataW H)),l.length<=Rows.uptoBulkAll l
 | []=>Nat.zero_le _
 |x::r=>by have:=tC r;have:=AU x;simp only[Rows.uptoBulkAll,List.length_cons];omega
theorem jN{H:Type}{a c:List (DataW H)}{k:Nat}(h:Rows.uptoBulk (.slice a c)<=k):a.length<=k∧∀d∈a,Rows.uptoBulk d<=k:=by simp only[Rows.uptoBulk]at h;have:=tC a;exact⟨by omega,fun d b=>by have:=jm b;omega⟩
theorem jO{H:Type}{a:List (DataW H)}{k:Nat}(h:Rows.uptoBulk (.agg a)<=k):∀d∈a,Rows.uptoBulk d<=k:=fun d b=>by simp only[Rows.uptoBulk]at h;have:=jm b;omega
theorem tD{H:Type}:∀(l r:List (DataW H)),Rows.uptoBulkAll l<=Rows.uptoBulkAll (l++r)
 | [],r=>Nat.zero_le _
 |x::l,r=>by have:=tD l r;simp only[List.cons_append,Rows.uptoBulkAll];omega
theorem qp{e:Type}{p:Nat->e->Prop}:∀n,(∀i,i<n->∃c,p i c)->∃l:List e,l.length=n∧∀i c,l[i]?=some c->p i c
 |0,_=>⟨[],rfl,fun i c h=>by simp at h⟩
 |n+1,h=>by
  obtain⟨l,b,g⟩:=qp n fun i j=>h i (by omega)
  obtain⟨c,f⟩:=h n (by omega);refine⟨l++[c],by simp[b],fun i d a=>?_⟩;rw[List.getElem?_append]at a;split at a
  ·exact g i d a
  ·have:i=n:=by have:=(LA.1 a).1;simp at this;omega
   subst this;rw[b,Nat.sub_self]at a;simp at a;subst a;exact f
theorem iu{w:World}{a:Addr}{v:Value}(h:w.cell? a=some v):∃b off,a=⟨b,off,none⟩∧b<w.heap.size:=by
 obtain⟨b,off,c⟩:=a;cases c with
 |none=>refine⟨b,off,rfl,?_⟩;apply LK;intro q;simp[World.cell?,Array.getElem?_eq_none (by omega:w.heap.size<=b)]at h
 |some x=>exfalso;simp only[World.cell?]at h;split at h<;>simp at h
theorem gH(a:Addr):a.add 0=a:=by obtain⟨b,off,c⟩:=a;cases c<;>simp[Addr.add]
theorem yR{w:World}{base:Nat}{a:Addr}{b:List Value}(h:w.cells? base a 1=some b):∃v,b=[v]∧w.cell? a=some v:=by
 obtain⟨_,d,c⟩:=World.cells?_some h
 match b,d with
 | [v],_=>have:=c 0 (by decide);rw[gH]at this;exact⟨v,rfl,this⟩
section
variable {H:Type} {enc:TypeId×Value->H} {W:World} {held:Bool}
theorem iw{t e:TypeId}{c:Value}{b:Nat}{x:DataW H×List MemPlace}(d:prog.underlying t=some (.slice e))(h:DataW.trod enc prog W 0 (fun _=>true) held b t [c]=some x):∃a n k,c=.slice a n k:=by
 rcases DataW.trod_slice d h with⟨q,-⟩|⟨_,_,_,_,_,_,_,q,-⟩
 ·exact⟨_,_,_,by simpa using q⟩
 ·exact⟨_,_,_,by simpa using q⟩
theorem Eo{a:Option Addr}{len cap s:Nat}{x:DataW H×List MemPlace}
  (h:DataW.trod enc prog W 0 (fun _=>true) held s 41 [.slice a len cap]=some x) (r:Rows.uptoBulk x.1<=1048576):
  ∃l:List Int,l.length=len∧len<=1048576∧p7 W (fun b=>b<W.heap.size) a cap l:=by
 rcases open_slice underlying41 h with⟨d,_⟩|⟨ad,l,c,m,n,D,F,d,_,I,A,p,hx,w⟩
 ·simp at d;obtain⟨rfl,rfl,rfl⟩:=d;exact⟨[],rfl,by decide,LS _,by simp[maxLen],by simp,fun q=>by simp at q⟩
 ·simp at d;obtain⟨rfl,rfl,rfl⟩:=d;simp only[if_true]at p;subst p;have t:prog.cellsOf 3=1:=by kernel_rfl
  rw[hx]at r;obtain⟨b1,-⟩:=jN r;simp only[List.length_map,List.length_range]at b1;have u:∀i,i<len->∃k:Int,eO k∧W.cell? (ad.add i)=some (.int .i64 k):=fun i o=>by
   obtain⟨G,h1,h2⟩:=w i (by omega);rw[t,Nat.mul_one]at h1;obtain⟨v,rfl,B⟩:=yR h1;obtain⟨k,e,-,E⟩:=DataW.trod_int underlying3 h2;obtain rfl:v=.int .i64 k:=by simpa using e
   exact⟨k,_root_.Go.bounds_i64 E,B⟩
  obtain⟨l,z,f⟩:=qp len u;refine⟨l,z,b1,by omega,A,fun k e=>?_,fun q=>?_⟩
  ·obtain⟨i,o⟩:=LM e;exact(f i k o).1
  ·obtain⟨-,g⟩:=f 0 _ (LB (by omega));rw[gH]at g;obtain⟨b,off,rfl,j⟩:=iu g;refine⟨b,off,rfl,j,j,fun i y C=>?_⟩;have:=(f i y C).2;rwa[Addr.add_lit]at this
theorem Ep{a:Option Addr}{len cap G:Nat}{x:DataW H×List MemPlace}
  (h:DataW.trod enc prog W 0 (fun _=>true) held G 65 [.slice a len cap]=some x) (B:Rows.uptoBulk x.1<=1048576):
  ∃l:List Ent,l.length=len∧len<=1048576∧H1 W (fun b=>b<W.heap.size) a cap l:=by
 rcases open_slice underlying65 h with⟨f,_⟩|⟨ad,l,c,m,n,D,Y,f,_,hl,O,A,hx,L⟩
 ·simp at f;obtain⟨rfl,rfl,rfl⟩:=f;exact⟨[],rfl,by decide,LS _,by simp[maxLen],by simp,fun q=>by simp at q⟩
 ·simp at f;obtain⟨rfl,rfl,rfl⟩:=f;simp only[if_true]at A;subst A;have I:prog.cellsOf 96=2:=by kernel_rfl
  have k9:prog.cellsOf 9=1:=by kernel_rfl
  have S:prog.cellsOf 22=1:=by kernel_rfl
  rw[hx]at B;obtain⟨b1,-⟩:=jN B;simp only[List.length_map,List.length_range]at b1;have K:∀i,i<len->∃e:Ent,e.2<4294967296∧W.cell? (ad.add (i*2))=some (.string e.1)∧W.cell? (ad.add (i*2+1))=some (.int .u32 e.2):=fun i z=>by
   obtain⟨E,h1,h2⟩:=L i (by omega);rw[I]at h1;obtain⟨_,J,v⟩:=World.cells?_some h1
   match E,J with
   | [d,o],_=>
    have t:=v 0 (by decide);have u:=v 1 (by decide);simp only[Go.Deep.add_add]at t u;obtain⟨X,C,-,hz,-,R,w⟩:=DataW.trod_struct underlying96 h2
    match X,R with
    | [U,V],_=>
     have F:DataW.trod enc prog W 0 (fun _=>true) held C 9 [d]=some U:=by have:=w 0 _ rfl;simpa[k9]using this
     have f1:DataW.trod enc prog W 0 (fun _=>true) held C 22 [o]=some V:=by have:=w 1 _ rfl;simpa[S]using this
     obtain⟨b,g,Z,-⟩:=DataW.trod_string underlying9 F;obtain⟨s,P,-,T⟩:=DataW.trod_int underlying22 f1;obtain rfl:d=.string b:=by simpa using g
     obtain rfl:o=.int .u32 s:=by simpa using P
     have hu:=_root_.Go.bounds_u32 T;refine⟨(b,s.toNat),by show s.toNat<4294967296;omega,by simpa using t,?_⟩;rw[show(((b,s.toNat):Ent).2:Int)=s by show((s.toNat:Nat):Int)=s;omega];simpa using u
  obtain⟨l,N,j⟩:=qp len K;refine⟨l,N,b1,by omega,O,fun k M=>?_,fun q=>?_⟩
  ·obtain⟨i,z⟩:=LM M;exact(j i k z).1
  ·obtain⟨-,d,-⟩:=j 0 _ (LB (by omega));rw[Nat.zero_mul,gH]at d;obtain⟨b,off,rfl,g⟩:=iu d;refine⟨b,off,rfl,g,g,fun i y Q=>?_⟩;obtain⟨-,p,r⟩:=j i y Q;rw[Addr.add_lit]at p r;exact⟨p,r⟩
theorem Fh{k w p e f g i j q r l d m:Value}{aa:Nat}{x:DataW H×List MemPlace}
  (h:DataW.trod enc prog W 0 (fun _=>true) held aa 67 [k,w,p,e,f,g,i,j,q,r,l,d,m]=some x) (t:Rows.uptoBulk x.1<=1048576):
  ∃o:Oc,.agg #[k,w,p,e,f,g,i,j,q,r,l,d,m]=o.v∧mL W (fun b=>b<W.heap.size) o:=by
 obtain⟨xs,n,-,hx,-,ab,a⟩:=DataW.trod_struct underlying67 h;have k3:prog.cellsOf 3=1:=by kernel_rfl
 have k5:prog.cellsOf 5=1:=by kernel_rfl
 have k9:prog.cellsOf 9=1:=by kernel_rfl
 have ah:prog.cellsOf 22=1:=by kernel_rfl
 have N:prog.cellsOf 41=1:=by kernel_rfl
 have al:prog.cellsOf 65=1:=by kernel_rfl
 have aj:prog.cellsOf 55=2:=by kernel_rfl
 have ai:prog.cellsOf 24=4:=by kernel_rfl
 have ak:prog.cellsOf 64=2:=by kernel_rfl
 match xs,ab with
 | [y0,R,y,y3,y4,y5,y6,y7],_=>
  have g0:DataW.trod enc prog W 0 (fun _=>true) held n 5 [k]=some y0:=by have:=a 0 _ rfl;simpa[k5]using this
  have B:DataW.trod enc prog W 0 (fun _=>true) held n 65 [w]=some R:=by have:=a 1 _ rfl;simpa[al]using this
  have g2:DataW.trod enc prog W 0 (fun _=>true) held n 55 [p,e]=some y:=by have:=a 2 _ rfl;simpa[aj]using this
  have g3:DataW.trod enc prog W 0 (fun _=>true) held n 24 [f,g,i,j]=some y3:=by have:=a 3 _ rfl;simpa[ai]using this
  have g4:DataW.trod enc prog W 0 (fun _=>true) held n 3 [q]=some y4:=by have:=a 4 _ rfl;simpa[k3]using this
  have g5:DataW.trod enc prog W 0 (fun _=>true) held n 3 [r]=some y5:=by have:=a 5 _ rfl;simpa[k3]using this
  have g6:DataW.trod enc prog W 0 (fun _=>true) held n 9 [l]=some y6:=by have:=a 6 _ rfl;simpa[k9]using this
  have g7:DataW.trod enc prog W 0 (fun _=>true) held n 64 [d,m]=some y7:=by have:=a 7 _ rfl;simpa[ak]using this
  rw[hx]at t;have p1:=jO t R.1 (by simp);have P:=jO t y.1 (by simp);clear t;obtain⟨zs,O,-,hz,-,ag,C⟩:=DataW.trod_struct underlying55 g2
  match zs,ag with
  | [z,S],_=>
   have A:DataW.trod enc prog W 0 (fun _=>true) held O 41 [p]=some z:=by have:=C 0 _ rfl;simpa[N]using this
   have f1:DataW.trod enc prog W 0 (fun _=>true) held O 3 [e]=some S:=by have:=C 1 _ rfl;simpa[k3]using this
   have af:y.1=.agg [z.1,S.1]:=by rw[hz];rfl
   rw[af]at P;have q0:=jO P z.1 (by simp);obtain⟨us,u,-,-,-,ad,s⟩:=DataW.trod_struct underlying24 g3
   match us,ad with
   | [s0,s1,s2,s3],_=>
    have t0:DataW.trod enc prog W 0 (fun _=>true) held u 3 [f]=some s0:=by have:=s 0 _ rfl;simpa[k3]using this
    have t1:DataW.trod enc prog W 0 (fun _=>true) held u 3 [g]=some s1:=by have:=s 1 _ rfl;simpa[k3]using this
    have t2:DataW.trod enc prog W 0 (fun _=>true) held u 3 [i]=some s2:=by have:=s 2 _ rfl;simpa[k3]using this
    have t3:DataW.trod enc prog W 0 (fun _=>true) held u 22 [j]=some s3:=by have:=s 3 _ rfl;simpa[ah]using this
    obtain⟨ws,n5,-,-,-,ae,D⟩:=DataW.trod_struct underlying64 g7
    match ws,ae with
    | [r0,r1],_=>
     have v0:DataW.trod enc prog W 0 (fun _=>true) held n5 3 [d]=some r0:=by have:=D 0 _ rfl;simpa[k3]using this
     have v1:DataW.trod enc prog W 0 (fun _=>true) held n5 41 [m]=some r1:=by have:=D 1 _ rfl;simpa[N]using this
     obtain⟨E,X,-,w0⟩:=DataW.trod_int underlying5 g0;obtain⟨G,e3,-,-⟩:=DataW.trod_int underlying3 f1;obtain⟨I,e4,-,-⟩:=DataW.trod_int underlying3 t0;obtain⟨J,e5,-,-⟩:=DataW.trod_int underlying3 t1;obtain⟨K,e6,-,-⟩:=DataW.trod_int underlying3 t2;obtain⟨c,e7,-,w7⟩:=DataW.trod_int underlying22 t3;obtain⟨L,e8,-,-⟩:=DataW.trod_int underlying3 g4;obtain⟨M,e9,-,-⟩:=DataW.trod_int underlying3 g5;obtain⟨Q,Y,-,-⟩:=DataW.trod_string underlying9 g6;obtain⟨F,Z,-,-⟩:=DataW.trod_int underlying3 v0;obtain rfl:k=.int .u8 E:=by simpa using X
     obtain rfl:e=.int .i64 G:=by simpa using e3
     obtain rfl:f=.int .i64 I:=by simpa using e4
     obtain rfl:g=.int .i64 J:=by simpa using e5
     obtain rfl:i=.int .i64 K:=by simpa using e6
     obtain rfl:j=.int .u32 c:=by simpa using e7
     obtain rfl:q=.int .i64 L:=by simpa using e8
     obtain rfl:r=.int .i64 M:=by simpa using e9
     obtain rfl:l=.string Q:=by simpa using Y
     obtain rfl:d=.int .i64 F:=by simpa using Z
     obtain⟨T,n1,m1,rfl⟩:=iw underlying65 B;obtain⟨V,n2,m2,rfl⟩:=iw underlying41 A;obtain⟨U,an,am,rfl⟩:=iw underlying41 v1;obtain⟨l1,rfl,b1,o1⟩:=Ep B p1;obtain⟨l2,rfl,b2,o2⟩:=Eo A q0;have ao:=_root_.Go.bounds_u32 w7;have ac:=_root_.Go.bounds_u8 w0;refine⟨⟨E,T,m1,l1,V,m2,⟨l2,G⟩,I,J,K,c.toNat,L,M,Q,F,U,an,am⟩,?_,ac.1,o1,o2,LR b1 (by decide),LR b2 (by decide)⟩;show Value.agg #[_,_,_,_,_,_,_,.int .u32 c,_,_,_,_,_]=Value.agg #[_,_,_,_,_,_,_,.int .u32 ((c.toNat:Nat):Int),_,_,_,_,_];rw[show((c.toNat:Nat):Int)=c by omega]
theorem EL{a:Option Addr}{len cap O:Nat}{x:DataW H×List MemPlace}
  (h:DataW.trod enc prog W 0 (fun _=>true) held O 62 [.slice a len cap]=some x) (y:Rows.uptoBulk x.1<=1048576):
  ∃l:List Oc,l.length=len∧len<=cap∧cap<=maxLen∧(0<l.length->∃g off,a=some ⟨g,off,none⟩∧g<W.heap.size∧∀(i:Nat)(o:Oc),l[i]?=some o->vU W (fun b=>b<W.heap.size) g (off+i*13) o)∧∀o∈l,mL W (fun b=>b<W.heap.size) o:=by
 rcases open_slice underlying62 h with⟨d,_⟩|⟨ad,l,c,m,n,D,Z,d,_,V,Y,w,hx,T⟩
 ·simp at d;obtain⟨rfl,rfl,rfl⟩:=d;exact⟨[],rfl,LS _,by simp[maxLen],fun q=>by simp at q,by simp⟩
 ·simp at d;obtain⟨rfl,rfl,rfl⟩:=d;simp only[if_true]at w;subst w;have Q:prog.cellsOf 67=13:=by kernel_rfl
  rw[hx]at y;obtain⟨b1,b2⟩:=jN y;have S:∀i,i<len->∃o:Oc,mL W (fun b=>b<W.heap.size) o∧∀p,Value.agg p=o.v->∀j,j<13->W.cell? (ad.add (i*13+j))=p[j]?:=fun i r=>by
   obtain⟨N,h1,h2⟩:=T i (by omega);rw[Q]at h1;obtain⟨_,R,P⟩:=World.cells?_some h1
   match N,R with
   | [f,z,E,F,G,I,J,K,L,M,A,B,C],_=>obtain⟨o,e,U⟩:=Fh h2 (b2 (D i) (List.mem_map.2 ⟨i,by simpa using r,rfl⟩));refine⟨o,U,fun p d j u=>?_⟩;rw[<-e]at d;simp only[Value.agg.injEq]at d;subst d;have:=P j (by simpa using u);rw[Go.Deep.add_add]at this;rw[this];simp[List.getElem?_eq_getElem (show j< [f,z,E,F,G,I,J,K,L,M,A,B,C].length by simpa using u)]
  obtain⟨l,X,s⟩:=qp len S;refine⟨l,X,V,Y,fun q=>?_,fun o e=>?_⟩
  ·have f:=(s 0 _ (LB q)).2 _ rfl 0 (by decide);rw[Nat.zero_mul,gH]at f;obtain⟨b,off,rfl,t⟩:=iu f;refine⟨b,off,rfl,t,fun i o e=>?_⟩;have k:=(s i o e).2 _ rfl;simp only[Addr.add_lit]at k;exact⟨k 0 (by decide),k 1 (by decide),k 2 (by decide),k 3 (by decide),k 4 (by decide),k 5 (by decide),k 6 (by decide),k 7 (by decide),k 8 (by decide),k 9 (by decide),k 10 (by decide),k 11 (by decide),k 12 (by decide),t⟩
  ·obtain⟨i,r⟩:=LM e;exact(s i o r).1
end
end Go.Proofs.YtofcogekgcgjhaaGreatDoor
