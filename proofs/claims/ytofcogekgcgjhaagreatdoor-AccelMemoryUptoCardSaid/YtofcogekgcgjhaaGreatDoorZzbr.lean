/- Packed. -/
import Derived.Test.YtofcogekgcgjhaaGreatDoorZzbq
set_option maxRecDepth 100000
set_option maxHeartbeats 8000000
namespace Go.Proofs.YtofcogekgcgjhaaGreatDoor
open Go.RowKit Go.Mine Go.Mine.Ac Go.Proofs.Tryz
structure qc (j:Nat) (L:ByteArray) (s:St):Prop where
 dead:s.dead=false
 size:L.size<=300000*j
 trees:s.trees.length<=j
 commits:s.commits.length<=j
theorem qc.mono{j k:Nat}{L:ByteArray}{s:St}(h:qc j L s)(a:j<=k):qc k L s:=⟨h.dead,by have:=h.size;omega,by have:=h.trees;omega,by have:=h.commits;omega⟩
theorem ti{j:Nat}{L:ByteArray}{s:St}(h:qc j L s)(c:j<=40)(k:Nat){b:ByteArray}(a:b.size<=267266):writeS (I4 16777216 L) s k b=(I4 16777216 (L++E8 ⟨k,b⟩),{s with dead:=false},0)∧(L++E8 ⟨k,b⟩).size<=300000*(j+1):=by have h2:=h.size;refine⟨ld (by rw[K0];omega),?_⟩;rw[ByteArray.size_append,K0];omega
theorem Cf{j:Nat}{L:ByteArray}{s:St}(h:qc j L s)(f:j<=40)(t:List Ent):(∀b,O9 t=.ok b->(writeS (I4 16777216 L) s 1 b).2.2=0)∧∃c d n k,addTree (I4 16777216 L) s t=(I4 16777216 c,d,n,k)∧qc (j+1) c d:=by
 have h3:=h.trees;have h4:=h.commits;cases a:O9 t with
 |error k=>exact⟨fun b z=>(by cases z),L,s,0,k,Z0 h.dead a,h.mono (by omega)⟩
 |ok b=>obtain⟨e,w2⟩:=ti h f 1 (jD a);refine⟨fun b2 z=>?_,_,_,_,_,O5 h.dead a (by omega) e,⟨rfl,w2,by simp;omega,by simp;omega⟩⟩;cases z;rw[e]
theorem yM{j:Nat}{L:ByteArray}{s:St}(h:qc j L s)(i:j<=40)(c:Cm):(∀b,U0 c=.ok b->(writeS (I4 16777216 L) s 2 b).2.2=0)∧∃d f n k,addCommit (I4 16777216 L) s c=(I4 16777216 d,f,n,k)∧qc (j+1) d f:=by
 have h3:=h.trees;have h4:=h.commits;cases a:U0 c with
 |error k=>exact⟨fun b z=>(by cases z),L,s,0,k,R0 h.dead a,h.mono (by omega)⟩
 |ok b=>
  obtain⟨g,w2⟩:=ti h i 2 (LR (jE a) (by decide));refine⟨fun b2 z=>(by cases z;rw[g]),?_⟩;cases e:F9 s c with
  |false=>exact⟨L,s,0,9,R4 h.dead a e,h.mono (by omega)⟩
  |true=>exact⟨_,_,_,_,H4 h.dead a e (by omega) g,⟨rfl,w2,by simp;omega,by simp;omega⟩⟩
variable {w0 w:World} {r d q p v a y j:Nat} {L:ByteArray} {s:St} {x:Ix}
def P8(w0 w:World)(r d q p v a y j:Nat)(x:Ix):Prop:=∃L s,eH w0 w r d q p v a y (I4 16777216 L) s x∧qc j L s
theorem P8.still{w0 w w':World}{r d q p v a y j:Nat}{x:Ix}(h:P8 w0 w r d q p v a y j x)(t:TF w w'):P8 w0 w' r d q p v a y j x:=by obtain⟨L,s,h,b⟩:=h;exact⟨L,s,h.still t,b⟩
abbrev gx(w0 w:World)(r:Nat):Nat->Prop:=fun b=>w0.heap.size<=b∧b<w.heap.size∧¬b=r
theorem BW.still{w0 w w':World}{c e:Nat->Prop}{r d q p v a y:Nat}{D:Dk}{s:St}{x:Ix}(h:BW w0 w c e r d q p v a y D s x)(t:TF w w'):BW w0 w' c e r d q p v a y D s x:=⟨h.pw.still t,h.dw.turned t (fun _ _ z=>z) fun _ z=>z.elim,h.dis,h.n1,h.n2,fun b z=>⟨(h.o1 b z).1,LC (h.o1 b z).2 t.size⟩,fun b z=>⟨(h.o2 b z).1,LC (h.o2 b z).2 t.size⟩,h.lr,j9 h.rb t id⟩
theorem P8.rb(h:P8 w0 w r d q p v a y j x):w.heap[r]?=some (.cells #[pt d,pt q,pt p,pt v,pt a,pt y] 39):=by obtain⟨L,s,⟨b,c,h⟩,e⟩:=h;exact h.rb
theorem Cg{S0:Nat->Prop}{ea:Option Addr}{cap:Nat}{t:List Ent}(h:P8 w0 w r d q p v a y j x)(N:j<=40)(M:H1 w S0 ea cap t)(D:t.length<=1000000000)(g:∀b,S0 b->b<w0.heap.size):
  ∃n k,∀c,TF w c->CZ 21 #[pt q,.slice ea t.length cap] c fun e l=>e=.returned (.tuple #[.int .i64 n,.int .i64 k])∧d7 (gx w0 w r) c l∧∀W,TF l W->CZ 84 #[pt a,.slice ea t.length cap] W fun e w2=>e=.returned (.tuple #[.int .i64 n,.int .i64 k])∧d7 (gx w0 w r) c w2∧P8 w0 w2 r d q p v a y (j+1) x:=by
 obtain⟨L,s,B,i⟩:=h;obtain⟨P,F,Q,n,k,u,I⟩:=Cf i N _;have O:=(gw B).2.1;obtain⟨G,m,h⟩:=B;refine⟨n,(k:Nat),fun c E=>?_⟩;have A:∀b,G b->gx w0 w r b:=fun b z=>⟨(h.o1 b z).1,(h.o1 b z).2,fun y=>h.n1 (y▸z)⟩
 have J:∀b,m b->gx w0 w r b:=fun b z=>⟨(h.o2 b z).1,(h.o2 b z).2,fun y=>h.n2 (y▸z)⟩
 replace h:=h.still E;have C:=M.turned E fun _ _ z=>z
 have:=vH h.pw C (fun b z y=>by have:=(h.o1 b y).1;have:=g b z;omega) D;rw[u]at this;refine this.mono fun e l⟨k1,k2⟩=>⟨k1,k2.2.mono fun b _ z=>A b z,fun W f=>?_⟩
 have K:gu w0 W m v a y (I4 16777216 L) s x:=((h.dw.turned k2.2 (fun b z y=>h.dis b y z) fun b z=>(h.o1 b z).1)).turned f (fun _ _ z=>z) fun _ z=>z.elim
 have h2:=vI K O ((C.turned k2.2 fun b z y=>by have:=(h.o1 b y).1;have:=g b z;omega).turned f fun _ _ z=>z) (fun b z y=>by have:=(h.o2 b y).1;have:=g b z;omega) D i.dead (by have:=i.trees;omega) P;rw[u]at h2;exact h2.mono fun e w2⟨H,o⟩=>⟨H,((k2.2.mono fun b _ z=>A b z).tr (f.mono fun _ _ z=>z.elim)).tr (o.2.mono fun b _ z=>J b z),F,Q,h.both k2 f o,I⟩
theorem yN{S0:Nat->Prop}{ea:Option Addr}{cap:Nat}{c:Cm}(h:P8 w0 w r d q p v a y j x)(N:j<=40)(M:p7 w S0 ea cap c.par)(D:c.par.length<=1000000000)(i:∀b,S0 b->b<w0.heap.size):
  ∃n k,∀f,TF w f->CZ 22 #[pt q,kJ ea cap c] f fun e m=>e=.returned (.tuple #[.int .i64 n,.int .i64 k])∧d7 (gx w0 w r) f m∧∀W,TF m W->CZ 87 #[pt a,kJ ea cap c] W fun e w2=>e=.returned (.tuple #[.int .i64 n,.int .i64 k])∧d7 (gx w0 w r) f w2∧P8 w0 w2 r d q p v a y (j+1) x:=by
 obtain⟨L,s,B,l⟩:=h;obtain⟨P,F,Q,n,k,u,I⟩:=yM l N _;have O:=(gw B).2.1;obtain⟨G,o,h⟩:=B;refine⟨n,(k:Nat),fun f E=>?_⟩;have A:∀b,G b->gx w0 w r b:=fun b z=>⟨(h.o1 b z).1,(h.o1 b z).2,fun y=>h.n1 (y▸z)⟩
 have J:∀b,o b->gx w0 w r b:=fun b z=>⟨(h.o2 b z).1,(h.o2 b z).2,fun y=>h.n2 (y▸z)⟩
 replace h:=h.still E;have C:=M.turned E fun _ _ z=>z
 have:=pR h.pw C (fun b z y=>by have:=(h.o1 b y).1;have:=i b z;omega) D;rw[u]at this;refine this.mono fun e m⟨k1,k2⟩=>⟨k1,k2.2.mono fun b _ z=>A b z,fun W g=>?_⟩
 have K:gu w0 W o v a y (I4 16777216 L) s x:=((h.dw.turned k2.2 (fun b z y=>h.dis b y z) fun b z=>(h.o1 b z).1)).turned g (fun _ _ z=>z) fun _ z=>z.elim
 have h2:=pS K O ((C.turned k2.2 fun b z y=>by have:=(h.o1 b y).1;have:=i b z;omega).turned g fun _ _ z=>z) (fun b z y=>by have:=(h.o2 b y).1;have:=i b z;omega) D l.dead (by have:=l.commits;omega) P;rw[u]at h2;exact h2.mono fun e w2⟨H,t⟩=>⟨H,((k2.2.mono fun b _ z=>A b z).tr (g.mono fun _ _ z=>z.elim)).tr (t.2.mono fun b _ z=>J b z),F,Q,h.both k2 g t,I⟩
end Go.Proofs.YtofcogekgcgjhaaGreatDoor
namespace Go.Proofs.YtofcogekgcgjhaaGreatDoor
open Go.RowKit Go.Mine Go.Mine.Ac Go.Proofs.Tryz
variable {w0 w:World} {r d q p v a y j:Nat} {x:Ix}
theorem yO{S0:Nat->Prop}{ta ea:Option Addr}{tc pc:Nat}{t:List Ent}{c:Cm}{K h1 h2 h3 n1 n2:Int}{h4:Nat}{tx:ByteArray}{f1 E:Value}(h:P8 w0 w r d q p v a y j x)(V:j<=40)(U:H1 w S0 ta tc t)(T:∀b,S0 b->b<w0.heap.size)(X:t.length<=1000000000)(l:Int.tmod K 12=0):
  CZ 26 #[pt r,.agg #[.int .u8 K,.slice ta t.length tc,.slice ea c.par.length pc,.int .i64 c.tree,.int .i64 h1,.int .i64 h2,.int .i64 h3,.int .u32 h4,.int .i64 n1,.int .i64 n2,.string tx,f1,E]] w fun e w'=>e=.returned (.bool true)∧d7 (gx w0 w r) w w'∧P8 w0 w' r d q p v a y (j+1) x:=by
 obtain⟨B,F⟩:∃B:Ending->World->Prop,B=fun e w'=>e=.returned (.bool true)∧d7 (gx w0 w r) w w'∧P8 w0 w' r d q p v a y (j+1) x:=⟨_,rfl⟩
 have HZ:Hid (B=fun e w'=>e=.returned (.bool true)∧d7 (gx w0 w r) w w'∧P8 w0 w' r d q p v a y (j+1) x):=F;rw[<-F];obtain⟨f,L⟩:=EX (w.alloc (.cells #[.int .u8 K,.slice ta t.length tc,.slice ea c.par.length pc,.int .i64 c.tree,.int .i64 h1,.int .i64 h2,.int .i64 h3,.int .u32 h4,.int .i64 n1,.int .i64 n2,.string tx,f1,E] 67));have Q:Hid (f=w.alloc (.cells #[.int .u8 K,.slice ta t.length tc,.slice ea c.par.length pc,.int .i64 c.tree,.int .i64 h1,.int .i64 h2,.int .i64 h3,.int .u32 h4,.int .i64 n1,.int .i64 n2,.string tx,f1,E] 67)):=L;obtain⟨m,G⟩:=A0 (w:=w) (.cells #[.int .u8 K,.slice ta t.length tc,.slice ea c.par.length pc,.int .i64 c.tree,.int .i64 h1,.int .i64 h2,.int .i64 h3,.int .u32 h4,.int .i64 n1,.int .i64 n2,.string tx,f1,E] 67);rw[<-L]at m G;obtain⟨tl,N⟩:=EX t.length;obtain⟨n,k,M⟩:=Cg h V U X T;rw[<-N]at M G Q;rw[<-N];have k0:(K.tmod 12==0)=true:=by rw[l];rfl
 have k7:(K.tmod 12==7)=false:=by rw[l];rfl
 have k8:(K.tmod 12==8)=false:=by rw[l];rfl
 have k9:(K.tmod 12==9)=false:=by rw[l];rfl
 have k10:(K.tmod 12==10)=false:=by rw[l];rfl
 clear l;have u:=h.rb;have lr:=i6 u;have i:Hid (∀W,d7 (gx w0 w r) f W->W.cell? ⟨w.heap.size,0,none⟩=some (.int .u8 K)∧W.cell? ⟨w.heap.size,1,none⟩=some (.slice ta tl tc)∧W.cell? ⟨r,1,none⟩=some (pt q)∧W.cell? ⟨r,4,none⟩=some (pt a)∧W.cell? ⟨r,5,none⟩=some (pt y)∧r<W.heap.size):=fun W z=>by
  have b1:=j9 G z fun k=>by omega
  have b2:=j9 (j9 u m id) z fun k=>k.2.2 rfl
  exact⟨g9 b1 0 _ rfl,g9 b1 1 _ rfl,g9 b2 1 _ rfl,g9 b2 4 _ rfl,g9 b2 5 _ rfl,i6 b2⟩
 have Z:Hid (∀W,TF f W->CZ 21 #[pt q,.slice ta tl tc] W fun e g=>e=.returned (.tuple #[.int .i64 n,.int .i64 k])∧d7 (gx w0 w r) f g∧∀W,TF g W->CZ 84 #[pt a,.slice ta tl tc] W fun e w2=>e=.returned (.tuple #[.int .i64 n,.int .i64 k])∧d7 (gx w0 w r) f w2∧P8 w0 w2 r d q p v a y (j+1) x):=i7 fun W z=>(M W (m.tr z)).mono fun e g⟨g1,g2,g3⟩=>⟨g1,(z.mono fun _ _ z=>z.elim).tr g2,fun W2 P=>(g3 W2 P).mono fun e w2⟨m1,m2,m3⟩=>⟨m1,(z.mono fun _ _ z=>z.elim).tr m2,m3⟩⟩
 have TV:Hid (TF w f):=m;have Y:Hid (∀w2,d7 (gx w0 w r) f w2->P8 w0 w2 r d q p v a y (j+1) x->B (.returned (.bool true)) w2):=i7 fun w2 z1 P=>by rw[F];exact⟨rfl,(m.mono fun _ _ z=>z.elim).tr z1,P⟩
 have Q0:Hid (d7 (gx w0 w r) f f):=i7 TQ;have s:=g9 u 4 _ rfl;have D:=g9 u 5 _ rfl;have e1:((n:Int)==n)=true:=by simp
 have e2:((k:Int)==k)=true:=by simp
 clear F M u G m L U T X h V N;go_enter func26,ntmps26;go_wp2_with fail;rw[<-Q.o];clear s D lr;have Q1:Hid (TF f f.drew):=i7 TD;obtain⟨R,C,H,s,D,S⟩:=i.o f.drew (Q1.o.mono fun _ _ z=>z.elim)
 go_region_held3 (fun W=>W.cell? ⟨w.heap.size,1,none⟩=some (.slice ta tl tc)∧W.cell? ⟨r,1,none⟩=some (pt q))
  (first|(exact⟨C,H⟩)|(exact⟨(i.o _ A).2.1,(i.o _ A).2.2.1⟩)|go_keep)
  (first
   |(go_fit(Z.o _ Q1.o);rintro e g⟨rfl,A,I⟩;replace I:=i7 I))
 go_wp2;have T1:Hid (d7 (gx w0 w r) f g):=i7 A;have Q2:Hid (TF g g.drew):=i7 TD;have T2:Hid (d7 (gx w0 w r) f g.drew):=i7 (A.tr TD);clear A R C H s D S;obtain⟨R,C,H,s,D,S⟩:=i.o _ T2.o
 go_region_held3 (fun W=>W.cell? ⟨w.heap.size,1,none⟩=some (.slice ta tl tc)∧W.cell? ⟨r,4,none⟩=some (pt a))
  (first|(exact⟨C,s⟩)|(exact⟨(i.o _ O).2.1,(i.o _ O).2.2.2.1⟩)|go_keep)
  (first
   |(go_fit(I.o _ Q2.o);rintro e w2⟨rfl,O,J⟩;replace J:=i7 J))
 go_wp2;exact Y.o _ O J.o
end Go.Proofs.YtofcogekgcgjhaaGreatDoor
namespace Go.Proofs.YtofcogekgcgjhaaGreatDoor
open Go.RowKit Go.Mine Go.Mine.Ac Go.Proofs.Tryz
variable {w0 w:World} {r d q p v a y j:Nat} {x:Ix}
theorem tj{S0:Nat->Prop}{ta ea:Option Addr}{tc pc:Nat}{t:List Ent}{c:Cm}{K h1 h2 h3 n1 n2:Int}{h4:Nat}{tx:ByteArray}{f1 F:Value}(h:P8 w0 w r d q p v a y j x)(Y:j<=40)(X:p7 w S0 ea pc c.par)(V:∀b,S0 b->b<w0.heap.size)(Z:c.par.length<=1000000000)(hK:1<=Int.tmod K 12∧Int.tmod K 12<=3):
  CZ 26 #[pt r,.agg #[.int .u8 K,.slice ta t.length tc,.slice ea c.par.length pc,.int .i64 c.tree,.int .i64 h1,.int .i64 h2,.int .i64 h3,.int .u32 h4,.int .i64 n1,.int .i64 n2,.string tx,f1,F]] w fun e w'=>e=.returned (.bool true)∧d7 (gx w0 w r) w w'∧P8 w0 w' r d q p v a y (j+1) x:=by
 obtain⟨B,G⟩:∃B:Ending->World->Prop,B=fun e w'=>e=.returned (.bool true)∧d7 (gx w0 w r) w w'∧P8 w0 w' r d q p v a y (j+1) x:=⟨_,rfl⟩
 have HZ:Hid (B=fun e w'=>e=.returned (.bool true)∧d7 (gx w0 w r) w w'∧P8 w0 w' r d q p v a y (j+1) x):=G;rw[<-G];obtain⟨f,O⟩:=EX (w.alloc (.cells #[.int .u8 K,.slice ta t.length tc,.slice ea c.par.length pc,.int .i64 c.tree,.int .i64 h1,.int .i64 h2,.int .i64 h3,.int .u32 h4,.int .i64 n1,.int .i64 n2,.string tx,f1,F] 67));have S:Hid (f=w.alloc (.cells #[.int .u8 K,.slice ta t.length tc,.slice ea c.par.length pc,.int .i64 c.tree,.int .i64 h1,.int .i64 h2,.int .i64 h3,.int .u32 h4,.int .i64 n1,.int .i64 n2,.string tx,f1,F] 67)):=O;obtain⟨m,J⟩:=A0 (w:=w) (.cells #[.int .u8 K,.slice ta t.length tc,.slice ea c.par.length pc,.int .i64 c.tree,.int .i64 h1,.int .i64 h2,.int .i64 h3,.int .u32 h4,.int .i64 n1,.int .i64 n2,.string tx,f1,F] 67);rw[<-O]at m J;obtain⟨tl,Q⟩:=EX c.par.length;obtain⟨u,P⟩:=EX c.tree;obtain⟨n,k,H⟩:=yN h Y X Z V;unfold kJ at H;rw[<-Q,<-P]at H J S;rw[<-Q,<-P];have k0:(K.tmod 12==0)=false:=by simp;omega
 have k4:(K.tmod 12==4)=false:=by simp;omega
 have k5:(K.tmod 12==5)=false:=by simp;omega
 have k6:(K.tmod 12==6)=false:=by simp;omega
 have k7:(K.tmod 12==7)=false:=by simp;omega
 have k8:(K.tmod 12==8)=false:=by simp;omega
 have k9:(K.tmod 12==9)=false:=by simp;omega
 have k10:(K.tmod 12==10)=false:=by simp;omega
 have k11:(K.tmod 12==11)=false:=by simp;omega
 clear hK;have A:=h.rb;have lr:=i6 A;have g:Hid (∀W,d7 (gx w0 w r) f W->W.cell? ⟨w.heap.size,0,none⟩=some (.int .u8 K)∧(W.cell? ⟨w.heap.size,2,none⟩=some (.slice ea tl pc)∧W.cell? ⟨w.heap.size,3,none⟩=some (.int .i64 u))∧W.cell? ⟨r,1,none⟩=some (pt q)∧W.cell? ⟨r,4,none⟩=some (pt a)∧W.cell? ⟨r,5,none⟩=some (pt y)∧r<W.heap.size):=fun W z=>by
  have b1:=j9 J z fun k=>by omega
  have b2:=j9 (j9 A m id) z fun k=>k.2.2 rfl
  exact⟨g9 b1 0 _ rfl,⟨g9 b1 2 _ rfl,g9 b1 3 _ rfl⟩,g9 b2 1 _ rfl,g9 b2 4 _ rfl,g9 b2 5 _ rfl,i6 b2⟩
 have HC:Hid (∀W,TF f W->CZ 22 #[pt q,.agg #[.slice ea tl pc,.int .i64 u]] W fun e i=>e=.returned (.tuple #[.int .i64 n,.int .i64 k])∧d7 (gx w0 w r) f i∧∀W,TF i W->CZ 87 #[pt a,.agg #[.slice ea tl pc,.int .i64 u]] W fun e w2=>e=.returned (.tuple #[.int .i64 n,.int .i64 k])∧d7 (gx w0 w r) f w2∧P8 w0 w2 r d q p v a y (j+1) x):=i7 fun W z=>(H W (m.tr z)).mono fun e i⟨g1,g2,g3⟩=>⟨g1,(z.mono fun _ _ z=>z.elim).tr g2,fun W2 R=>(g3 W2 R).mono fun e w2⟨m1,m2,m3⟩=>⟨m1,(z.mono fun _ _ z=>z.elim).tr m2,m3⟩⟩
 have TV:Hid (TF w f):=m;have aa:Hid (∀w2,d7 (gx w0 w r) f w2->P8 w0 w2 r d q p v a y (j+1) x->B (.returned (.bool true)) w2):=i7 fun w2 z1 R=>by rw[G];exact⟨rfl,(m.mono fun _ _ z=>z.elim).tr z1,R⟩
 have Q0:Hid (d7 (gx w0 w r) f f):=i7 TQ;have s:=g9 A 4 _ rfl;have E:=g9 A 5 _ rfl;have e1:((n:Int)==n)=true:=by simp
 have e2:((k:Int)==k)=true:=by simp
 clear G H A J m O X V Z h Y Q P;go_enter func26,ntmps26;go_wp2_with fail;rw[<-S.o];clear s E lr;have Q1:Hid (TF f f.drew):=i7 TD;obtain⟨T,a1,L,s,E,U⟩:=g.o f.drew (Q1.o.mono fun _ _ z=>z.elim);obtain⟨C,D⟩:=a1
 go_region_held3 (fun W=>W.cell? ⟨w.heap.size,2,none⟩=some (.slice ea tl pc)∧W.cell? ⟨w.heap.size,3,none⟩=some (.int .i64 u)∧W.cell? ⟨r,1,none⟩=some (pt q))
  (first|(exact⟨C,D,L⟩)|(exact⟨(g.o _ l).2.1.1,(g.o _ l).2.1.2,(g.o _ l).2.2.1⟩)|go_keep)
  (first
   |(go_fit(HC.o _ Q1.o);rintro e i⟨rfl,l,M⟩;replace M:=i7 M))
 go_wp2;have T1:Hid (d7 (gx w0 w r) f i):=i7 l;have Q2:Hid (TF i i.drew):=i7 TD;have T2:Hid (d7 (gx w0 w r) f i.drew):=i7 (l.tr TD);clear l T C D L s E U;obtain⟨T,⟨C,D⟩,L,s,E,U⟩:=g.o _ T2.o
 go_region_held3 (fun W=>W.cell? ⟨w.heap.size,2,none⟩=some (.slice ea tl pc)∧W.cell? ⟨w.heap.size,3,none⟩=some (.int .i64 u)∧W.cell? ⟨r,4,none⟩=some (pt a))
  (first|(exact⟨C,D,s⟩)|(exact⟨(g.o _ I).2.1.1,(g.o _ I).2.1.2,(g.o _ I).2.2.2.1⟩)|go_keep)
  (first
   |(go_fit(M.o _ Q2.o);rintro e w2⟨rfl,I,N⟩;replace N:=i7 N))
 go_wp2;exact aa.o _ I N.o
end Go.Proofs.YtofcogekgcgjhaaGreatDoor
namespace Go.Proofs.YtofcogekgcgjhaaGreatDoor
open Go.RowKit Go.Mine Go.Mine.Ac Go.Proofs.Tryz
def DC(w:World)(l:List Ch.Ln)(g:Nat)(c a:Value)(wr:World):Prop:=∃i:Nat,i+g=l.length∧a=.int .i64 i∧Sl wr (fun b=>w.heap.size<=b) 3 1 c (ic ((l.take i).map (·.2.1))) i∧d7 (fun b=>w.heap.size<=b) w wr
theorem AO{w0 w:World}{r d q p v a y:Nat}{D:Dk}{s:St}{x:Ix}{SP:Nat->Prop}{pa:Option Addr}{pc:Nat}{path:ByteArray}(h:eH w0 w r d q p v a y D s x)(hn:ir D.names D.seen)(aD:D.off=false)(hs:D.seen.length<=100000)(hp:path.size<=1000000000)(aE:Sl w SP 9 1 (.slice pa 1 pc) [.string path] 1):
  CZ 49 #[pt r,.slice pa 1 pc] w (RT (.bool true) w):=by
 obtain⟨Z,hZ⟩:∃Z:Ending->World->Prop,Z=(RT (.bool true) w):=⟨_,rfl⟩;have HZ:Hid (Z=(RT (.bool true) w)):=hZ;rw[<-hZ];have I:Hid (∀W,TF w W->eH w0 W r d q p v a y D s x):=i7 fun W t=>h.still t
 have hok:=(gw h).1;obtain⟨A,am⟩:∃A:Nat,x.len=(A:Int):=⟨x.len.toNat,by have:=eF hok;have:=Q9 hok x.graphs.length;omega⟩;have ah:Hid (A<=1000000∧G0 x):=i7 ⟨by have:=eF hok;have:=Q9 hok x.graphs.length;omega,hok⟩;have aP:Hid (∀W,TF w W->CZ 105 #[pt r] W (RT (.bool true) W)):=i7 fun W t=>AM (I.o W t) hn aD hs
 have aT:Hid (∀W,TF w W->CZ 15 #[pt p] W (RT (.int .i64 A) W)):=i7 fun W t=>by rw[<-am];exact AN (I.o W t)
 have ai:Hid (∀W,TF w W->CZ 106 #[pt y] W (RT (.int .i64 A) W)):=i7 fun W t=>by rw[<-am];exact Cc (I.o W t)
 obtain⟨f,ac⟩:=EX x.links.length;have B:Hid (f=x.links.length∧f<=8∧I9 x=x.links.map (·.2.1)∧(I9 x).length=f):=i7 ⟨ac,by rw[ac];exact hok.many,fk hok,by rw[fk hok,List.length_map,ac]⟩;have aU:Hid (∀W,TF w W->CZ 16 #[pt p] W fun e w'=>∃a cap,e=.returned (.slice a f cap)∧Sl w' (fun b=>W.heap.size<=b) 3 1 (.slice a f cap) (ic (I9 x)) f∧TF W w'):=i7 fun W t=>by have:=oj (I.o W t);unfold je at this;rw[B.o.2.2.2]at this;exact this
 have aQ:Hid (∀(W:World)(S1 S2:Nat->Prop)a1 L a2 M,Sl W S1 3 1 (.slice a1 f L) (ic (I9 x)) f->Sl W S2 3 1 (.slice a2 f M) (ic (I9 x)) f->CZ 107 #[.slice a1 f L,.slice a2 f M] W (RT (.bool true) W)):=i7 fun W S1 S2 a1 L a2 M k1 k2=>by
  have hI:∀z∈I9 x,eO z:=fun z hz=>by rw[B.o.2.2.1]at hz;obtain⟨l,O,rfl⟩:=List.mem_map.1 hz;obtain⟨h1,h2,h3,h4,h5⟩:=ah.o.2.link l O;exact⟨by show(-9223372036854775808:Int)<=l.2.1;omega,by show l.2.1<=9223372036854775807;omega⟩
  rw[<-B.o.2.2.2]at k1 k2 ⊢;obtain⟨bc,be,e1,i1⟩:=gU k1 hI;obtain⟨bd,bf,e2,i2⟩:=gU k2 hI;simp only[Value.slice.injEq,true_and]at e1 e2;obtain⟨rfl,rfl⟩:=e1;obtain⟨rfl,rfl⟩:=e2;exact iS i1 i2 (by rw[B.o.2.2.2];have:=B.o.2.1;omega)
 have aW:Hid (∀W(n:Int),TF w W->CZ 20 #[pt p,.int .i64 n] W (om W (fun w' b=>W.heap.size<=b∧b<w'.heap.size) (E9 x n))):=i7 fun W n t=>Ej (I.o W t) n
 have aR:Hid (∀W(n:Int),n<=9223372036854775807->TF w W->CZ 108 #[pt y,.int .i64 n] W (om W (fun _ b=>b<W.heap.size) (E9 x n))):=i7 fun W n hn t=>Cd (I.o W t) n hn
 have aY:Hid (∀n,(rowR (E9 x n)).1.par.length<=1000000):=i7 fun n=>by
  cases hf:E9 x n with|none=>exact Nat.zero_le _|some gr=>obtain⟨g,rr⟩:=gr;have:=(pZ hok hf).1;show rr.par.length<=_;omega
 have aV:Hid (∀W(n:Int),TF w W->CZ 17 #[pt p,.int .i64 n,.string path] W (RT (.bool (gJ x n path)) W)):=i7 fun W n t=>Ek (I.o W t) n path hp
 have aS:Hid (∀W(n:Int),n<=9223372036854775807->TF w W->CZ 109 #[pt y,.int .i64 n,.string path] W (RT (.bool (gJ x n path)) W)):=i7 fun W n hn t=>Ce (I.o W t) n hn path hp
 have u:Hid (∀W,TF w W->(W.cell? ⟨r,2,none⟩=some (pt p)∧W.cell? ⟨r,5,none⟩=some (pt y))∧r<W.heap.size):=i7 fun W t=>by obtain⟨O1,O2,h⟩:=I.o W t;exact⟨⟨g9 h.rb 2 _ rfl,g9 h.rb 5 _ rfl⟩,i6 h.rb⟩
 obtain⟨X,kc,SK,ax,ky⟩:∃X kc SK,(∀b,SK b->b<w.heap.size)∧Sl w SK 120 3 (.slice X f kc) (Ch.lcells x.links) f∧(∀W,TF w W->W.cell? ⟨y,1,none⟩=some (.slice X f kc)∧y<W.heap.size):=by obtain⟨O1,O2,h⟩:=h;obtain⟨S2,bl,bm,hd,bi⟩:=h.dw;obtain⟨lv,gv,h2,-⟩:=hd.ix;have O:=h2.links;rw[<-ac]at O;obtain⟨X,kc,rfl,-,-⟩:=O.value;exact⟨X,kc,_,fun b z=>h2.bnd b (by omega),O,fun W t=>by have hb:=j9 h2.blk t id;exact⟨g9 hb 1 _ rfl,i6 hb⟩⟩
 have av:Hid (Sl w SK 120 3 (.slice X f kc) (Ch.lcells x.links) f∧(∀b,SK b->b<w.heap.size)∧∀W,TF w W->W.cell? ⟨y,1,none⟩=some (.slice X f kc)∧y<W.heap.size):=⟨ky.1,ax,ky.2⟩;have aX:Hid (Sl w SP 9 1 (.slice pa 1 pc) [.string path] 1):=aE;have Ka:=i7 (u.o w.drew TD).1;have rl:=(u.o w TQ).2;clear hZ h hn aD hs hp aE hok am ac ax ky;go_enter func49,ntmps49;go_wp2
 go_region_held3 (fun W=>W.cell? ⟨r,2,none⟩=some (pt p)∧W.cell? ⟨r,5,none⟩=some (pt y))
  (first|(with_reducible exact Ka.o)|(with_reducible exact Kb.o)|go_keep)
  (first
   |(go_fit(aP.o w.drew TD);rintro e C⟨rfl,q1⟩;have J:TF w C:=TD.tr q1;have Kb:=i7 (u.o C J).1)
   |fail)
 obtain⟨⟨r2,r5⟩,aa⟩:=u.o C J;obtain⟨y1,yl⟩:=av.o.2.2 C J;have aw:Hid (TF w C):=i7 J;have B0:Hid (DC C x.links f (.slice none 0 0) (.int .i64 0) C):=⟨0,by have:=B.o;omega,rfl,Sl.nil _ _ _ _,TQ⟩;clear J rl;go_wp2;go_loopg[5,44] f (fun g lv iv wr=>DC C x.links g lv iv wr)
 case atStart=>exact B0.o
 case round=>
  clear B0 r2 r5 aa y1 yl;obtain⟨i,aA,rfl,aq,ht⟩:=hrel;obtain⟨la,lc,rfl,-,-⟩:=aq.value;have G:Hid (i+gk=x.links.length):=aA;have SL:Hid (Sl wr (fun b=>C.heap.size<=b) 3 1 (.slice la i lc) (ic ((x.links.take i).map (·.2.1))) i):=aq;have TT:Hid (d7 (fun b=>C.heap.size<=b) C wr):=ht;have E:Hid (TF w wr):=i7 (aw.o.comp ht fun j hj z=>by have h1:=aw.o.size;have z':C.heap.size<=j:=z.elim False.elim id;omega);clear aA aq;by_cases hi:i<f
  ·have e1:decide ((i:Int)<(f:Int))=true:=LX (by omega);have e2:decide (i<f)=true:=LX hi;obtain⟨l,O⟩:∃l,x.links[i]?=some l:=⟨_,LB (by rw[<-B.o.1];exact hi)⟩;have an:=av.o.1;rw[B.o.1]at an;obtain⟨a',c',e,aB⟩:=Ch.cU an (jx.of ah.o.2);simp only[Value.slice.injEq,true_and]at e;obtain⟨rfl,rfl⟩:=e;obtain⟨b,off,rfl,bh,c0,L,M⟩:=Ch.M8 (aB.turned E.o) i l O;obtain⟨ln,H,au⟩:=l;dsimp only at c0 L M;have HX:Hid ((x.links.take (i+1)).map (·.2.1)=(x.links.take i).map (·.2.1)++[H]∧i<f):=i7 ⟨by rw[List.take_add_one,O];simp,hi⟩;have m1:Hid (i+1<=maxLen∧(i+1)*8<=140737488355328):=i7 (by have:=B.o.2.1;simp only[maxLen];omega);have J:Hid (TF wr ((wr.alloc (.cells #[.int .i64 ln,.int .i64 H,.int .u32 au] 120)).alloc (.cells #[.int .i64 H] 3))):=TA.new _;have a3:Hid (Src prog 1 41 (.slice (some ⟨wr.heap.size+1,0,none⟩) 1 1) 1 [.int .i64 H] ((wr.alloc (.cells #[.int .i64 ln,.int .i64 H,.int .u32 au] 120)).alloc (.cells #[.int .i64 H] 3))):=i7 (by have:=R6 (P:=prog) underlying41 (.int .i64 H) rfl (wr.alloc (.cells #[.int .i64 ln,.int .i64 H,.int .u32 au] 120));simpa using this);clear O an aB ht;go_wp2_with(at_builtin;refine m7 rfl _ _ 41 41 rfl (SL.o.turned (T:=fun _=>False) J.o (fun _ _ q=>q)) underlying41 info3g rfl (by decide) rfl (.slice (some ⟨wr.heap.size+1,0,none⟩) 1 1) rfl a3.o m1.o.1 m1.o.2 ?_;intro v5 w5 ar aF;obtain⟨a5,c5,rfl,-,-⟩:=ar.value;have Y:=i7 (And.intro ar aF);clear ar aF);go_roundg (gk-1)
   case measure=>have:=G.o;have:=HX.o.2;have:=B.o;omega
   case rel=>
    refine⟨i+1,by have:=G.o;have:=HX.o.2;have:=B.o;omega,by have:=B.o;have:=HX.o.2;simp[wrap64];omega,?_,TT.o.tr (J.o.comp Y.o.2 fun i hi z=>z.elim False.elim id)⟩;rw[HX.o.1];have e:ic ((x.links.take i).map (·.2.1)++[H])=ic ((x.links.take i).map (·.2.1))++[.int .i64 H]:=by simp[ic]
    rw[e];refine Y.o.1.widen fun b hb=>?_
    have h1:=TT.o.size;have h2:=J.o.size;exact hb.elim id fun z=>by omega
  ·have e1:decide ((i:Int)<(f:Int))=false:=LD (by omega);have e2:decide (i<f)=false:=LD hi;have az:i=f:=by have:=G.o;have:=B.o.1;omega
   have a0:Hid (Sl wr (fun b=>C.heap.size<=b) 3 1 (.slice la f lc) (ic (I9 x)) f):=i7 (by have h:=SL.o;rw[List.take_of_length_le (by have:=B.o.1;omega),<-B.o.2.2.1,az]at h;exact h);subst az;have q1:((A:Int)==(A:Int))=true:=by simp
   have q2:((A:Int) !=(A:Int))=false:=by simp
   obtain⟨⟨r2,r5⟩,aa⟩:=u.o wr E.o;have Kc:=i7 (u.o wr.drew E.o.draw).1;clear hi ht SL;generalize bb:wr=af at *;clear bb;go_wp2
   go_region_held3 (fun W=>W.cell? ⟨r,2,none⟩=some (pt p)∧W.cell? ⟨r,5,none⟩=some (pt y))
    (first|(with_reducible exact Kc.o)|(with_reducible exact K2.o)|(with_reducible exact K3.o)|(with_reducible exact K4.o)|(with_reducible exact K5.o)|go_keep)
    (first
     |(go_fit(aT.o af.drew E.o.draw);rintro e w2⟨rfl,ad⟩;have R:TF af w2:=TD.tr ad;have K2:=i7 (u.o w2 (E.o.tr R)).1;clear ad)
     |(go_fit(ai.o w2 (E.o.tr R));rintro e w3⟨rfl,ae⟩;have U:TF af w3:=R.tr ae;have K3:=i7 (u.o w3 (E.o.tr U)).1;clear ae)
     |(go_fit(aU.o w3 (E.o.tr U));rintro e w4⟨a4,c4,rfl,s4,aI⟩;have S4:=i7 s4;have T4:TF af w4:=U.tr aI;have K4:=i7 (u.o w4 (E.o.tr T4)).1;clear aI s4)
     |(go_fit(aQ.o w4 _ _ _ _ _ _ S4.o (a0.o.turned T4 fun _ _ z=>z));rintro e w5⟨rfl,aJ⟩;have T5:TF af w5:=T4.tr aJ;have K5:=i7 (u.o w5 (E.o.tr T5)).1;clear aJ)
     |fail)
   have a7:Hid (TF w w5):=i7 (E.o.tr T5);clear R U T4 T5 r2 r5 aa;go_wp2;go_loopg[8] (A+2) (fun g nv wr=>∃m:Nat,m+g=A+2∧nv=.int .i64 ((m:Int)-1)∧TF w5 wr)
   case atStart=>exact⟨0,by omega,rfl,TQ⟩
   case round=>
    obtain⟨m,aC,rfl,V⟩:=hrel;have GM:Hid (m+gk=A+2):=aC;have TM:Hid (TF w wr):=i7 (a7.o.tr V);have a8:Hid (TF w5 wr):=V;obtain⟨⟨r2,r5⟩,aa⟩:=u.o wr TM.o;clear aC V;obtain⟨N,hN⟩:∃N:Int,N=(m:Int)-1:=⟨_,rfl⟩;rw[<-hN];by_cases hm:m<=A+1
    ·have e1:decide (N<=(A:Int))=true:=LX (by omega);have ag:Hid (N=(m:Int)-1∧m<=A+1∧N<=9223372036854775807):=i7 ⟨hN,hm,by have:=ah.o.1;omega⟩;have aZ:Hid (wrap64 (N+1)=((m+1:Nat):Int)-1):=i7 (by have:=ah.o.1;simp only[wrap64];omega);obtain⟨⟨⟨par,tree,gen,state,bits⟩,ok⟩,ap⟩:∃o,o=rowR (E9 x N):=⟨_,rfl⟩;have aj:Hid (rowR (E9 x N)=(⟨par,tree,gen,state,bits⟩,ok)∧par.length<=1000000):=i7 ⟨ap.symm,by have:=aY.o N;rw[<-ap]at this;exact this⟩;obtain⟨P,hP⟩:=EX par.length;have HP:Hid (P=par.length):=hP;have aN:Hid (∀W,TF w W->CZ 20 #[pt p,.int .i64 N] W fun e w'=>∃b c,e=.returned (.tuple #[.agg #[.slice b P c,.int .i64 tree,.int .i64 gen,.int .i64 state,.string bits],.bool ok])∧fy w' (fun b=>W.heap.size<=b∧b<w'.heap.size) b c par∧TF W w'):=i7 fun W t=>by have:=aW.o W N t;unfold om at this;rw[aj.o.1]at this;rw[hP];exact this
     have aK:Hid (∀W,TF w W->CZ 108 #[pt y,.int .i64 N] W fun e w'=>∃b c,e=.returned (.tuple #[.agg #[.slice b P c,.int .i64 tree,.int .i64 gen,.int .i64 state,.string bits],.bool ok])∧fy w' (fun b=>b<W.heap.size) b c par∧TF W w'):=i7 fun W t=>by have:=aR.o W N ag.o.2.2 t;unfold om at this;rw[aj.o.1]at this;rw[hP];exact this
     have aO:Hid (∀(W:World)(S1 S2:Nat->Prop)b1 L b2 M,fy W S1 b1 L par->fy W S2 b2 M par->CZ 92 #[.agg #[.slice b1 P L,.int .i64 tree,.int .i64 gen,.int .i64 state,.string bits],.agg #[.slice b2 P M,.int .i64 tree,.int .i64 gen,.int .i64 state,.string bits]] W (RT (.bool true) W)):=i7 fun W S1 S2 b1 L b2 M k1 k2=>by rw[hP];exact vQ (r:=⟨par,tree,gen,state,bits⟩) k1 k2 aj.o.2
     have S:=ai.o wr TM.o;replace S:=i7 S;have b1:(ok==ok)=true:=by simp
     have b2:(ok !=ok)=false:=by simp
     clear hN hm ap hP
     go_wp2_with(first
      |(go_fit S.o;rintro e wa⟨rfl,qa⟩;have ab:Hid (TF w wa∧TF wr wa):=i7 ⟨TM.o.tr qa,qa⟩;have k1:=u.o wa ab.o.1;have u2:=k1.1.1;have ul:=k1.2;clear k1 r2 r5 aa qa)
      |(go_fit(aN.o wa ab.o.1);rintro e F⟨pb,aH,rfl,ib,qb⟩;have TB:Hid (TF w F):=i7 (ab.o.1.tr qb);have IB:=i7 ib;have a9:Hid (TF wa F):=i7 qb;have k1:=u.o F TB.o;have v5:=k1.1.2;have vl:=k1.2;clear k1 u2 ul qb ib)
      |(go_fit(aK.o _ (TB.o.new _));rintro e Q⟨pd,bk,rfl,aG,qd⟩;have ak:Hid (TF w Q∧TF F Q):=i7 ⟨(TB.o.new _).tr qd,(TA.tr qd)⟩;have ID:=i7 aG;have kb:=j9 (i8 F (.cells #[.slice pb P aH,.int .i64 tree,.int .i64 gen,.int .i64 state,.string bits] 48)) qd id;have z0:Q.cell? ⟨F.heap.size,0,none⟩=some (.slice pb P aH):=g9 kb 0 _ rfl;have z1:Q.cell? ⟨F.heap.size,1,none⟩=some (.int .i64 tree):=g9 kb 1 _ rfl;have z2:Q.cell? ⟨F.heap.size,2,none⟩=some (.int .i64 gen):=g9 kb 2 _ rfl;have z3:Q.cell? ⟨F.heap.size,3,none⟩=some (.int .i64 state):=g9 kb 3 _ rfl;have z4:Q.cell? ⟨F.heap.size,4,none⟩=some (.string bits):=g9 kb 4 _ rfl;have zl:=i6 kb;clear kb v5 vl qd aG)
      |(go_fit(aO.o _ _ _ _ _ _ _ ((IB.o.turned ak.o.2 fun _ _ z=>z).turned (d7.alloc (fun _=>False) Q _) fun _ _ z=>z) (ID.o.turned (d7.alloc (fun _=>False) Q _) fun _ _ z=>z));rintro e we⟨rfl,qe⟩;have TE:Hid (TF w we∧TF F we):=i7 ⟨(ak.o.1.new _).tr qe,(ak.o.2.new _).tr qe⟩;clear qe z0 z1 z2 z3 z4 zl))
     generalize ba:gk=Gk at *;clear ba;have a6:Hid (TF w5 we):=i7 (a8.o.tr (ab.o.2.trans (a9.o.trans TE.o.2 fun _ _ z=>z) fun _ _ z=>z));obtain⟨MB,al⟩:=EX (gJ x N path);have aM:Hid (∀W,TF w W->CZ 17 #[pt p,.int .i64 N,.string path] W (RT (.bool MB) W)):=i7 fun W t=>by rw[al];exact aV.o W N t
     have aL:Hid (∀W,TF w W->CZ 109 #[pt y,.int .i64 N,.string path] W (RT (.bool MB) W)):=i7 fun W t=>by rw[al];exact aS.o W N ag.o.2.2 t
     have b3:(MB==MB)=true:=by simp
     have b4:(MB !=MB)=false:=by simp
     clear al b1 b2;go_loopg[113] 1 (fun g kv wr=>∃k:Nat,k+g=1∧kv=.int .i64 k∧TF we wr)
     case atStart=>exact⟨0,rfl,rfl,TQ⟩
     case round=>
      obtain⟨k,ao,rfl,V⟩:=hrel;have GG:Hid (k+gk=1):=ao;have K:Hid (TF we wr∧TF w wr):=i7 ⟨V,TE.o.1.tr V⟩;obtain⟨⟨r2,r5⟩,aa⟩:=u.o wr K.o.2;obtain⟨bp,op,cp,e,-,-,-,ay,-,bj⟩:=(aX.o.turned K.o.2 fun _ _ z=>z).opens (by omega);simp only[Value.slice.injEq]at e;obtain⟨rfl,-,rfl⟩:=e;have bg:wr.cell? ⟨bp,op,none⟩=some (.string path):=ay 0 (by omega);have Kc:=i7 (u.o wr.drew K.o.2.draw).1;clear V ay;rcases(show k=0∨k=1 by omega)with rfl|rfl
      ·clear ao;go_wp2
       go_region_held3 (fun W=>W.cell? ⟨r,2,none⟩=some (pt p)∧W.cell? ⟨r,5,none⟩=some (pt y))
        (first|(with_reducible exact Kc.o)|(with_reducible exact K2.o)|(with_reducible exact K3.o)|go_keep)
        (first
         |(go_fit(aM.o wr.drew K.o.2.draw);rintro e w2⟨rfl,ad⟩;have R:TF wr w2:=TD.tr ad;have K2:=i7 (u.o w2 (K.o.2.tr R)).1;clear ad)
         |(go_fit(aL.o w2 (K.o.2.tr R));rintro e w3⟨rfl,ae⟩;have U:TF wr w3:=R.tr ae;have K3:=i7 (u.o w3 (K.o.2.tr U)).1;clear ae)
         |fail)
       go_wp2;go_roundg (gk-1)
       case measure=>have:=GG.o;omega
       case rel=>exact⟨1,by have:=GG.o;omega,rfl,K.o.1.tr U⟩
      ·clear ao;go_wp2;go_roundg (Gk-1)
       case measure=>have:=GM.o;have:=ag.o;omega
       case rel=>exact⟨m+1,by have:=GM.o;have:=ag.o;omega,by rw[aZ.o],a6.o.tr K.o.1⟩
    ·have e1:decide (N<=(A:Int))=false:=LD (by omega);have S:=ai.o wr TM.o;replace S:=i7 S;clear hN hm;go_wp2_with(go_fit S.o;rintro e wa⟨rfl,qa⟩;have ab:Hid (TF w wa):=i7 (TM.o.tr qa);clear r2 r5 aa qa);rw[HZ.o];exact⟨rfl,ab.o⟩
def nk(w0 w:World)(c:Nat->Prop)(v a:Nat)(D:Dk)(s:St):Prop:=∃S rs e d,G9 w S v D∧(∀b,S b->w0.heap.size<=b∧b<w.heap.size)∧F4 78 w rs a (pt v) e d s∧(∀b,rs b≠0->w0.heap.size<=b∧¬S b)∧(∀b,S b∨rs b≠0->c b∧b<w.heap.size)∧TF w0 w
theorem nk.turned{w0 w w':World}{d T:Nat->Prop}{v a:Nat}{D:Dk}{s:St}(h:nk w0 w d v a D s)(t:d7 T w w')(e:∀b,d b->¬T b)(g:∀b,T b->w0.heap.size<=b):nk w0 w' d v a D s:=by obtain⟨S,rs,l,f,h1,h3,h4,j,c,k⟩:=h;exact⟨S,rs,l,f,h1.turned t fun b z=>e b (c b (.inl z)).1,fun b z=>⟨(h3 b z).1,LC (h3 b z).2 t.size⟩,h4.turned t fun b z=>e b (c b (.inr z)).1,j,fun b z=>⟨(c b z).1,LC (c b z).2 t.size⟩,k.comp t fun i m z=>z.elim id fun z=>by have:=g i z;omega⟩
theorem nk.still{w0 w w':World}{b:Nat->Prop}{v a:Nat}{D:Dk}{s:St}(h:nk w0 w b v a D s)(t:TF w w'):nk w0 w' b v a D s:=h.turned t (fun _ _ z=>z) fun _ z=>z.elim
theorem AP{w w2:World}{f:Nat->Prop}{v a:Nat}{D:Dk}{s:St}(h:nk w w2 f v a D s)(t:D.Ok)(u:D.read chainB=(emp,6))(n:Int):CZ 102 #[pt v,.int .i64 n] w2 fun e w'=>∃b,e=.returned (.tuple #[pt b,.int .i64 0])∧gu w w' (fun b=>f b∨w2.heap.size<=b) v a b D s noIx∧TF w2 w':=by
 obtain⟨S,rs,x,q,h1,h3,h4,j,l,m⟩:=h;refine(ni h1 t u n).mono fun e w'⟨c,o,y,A,p,d⟩=>⟨c,o,⟨S,rs,fun b=>if b=c then 1 else 0,⟨h1.turned d fun _ _ z=>z,fun b z=>⟨(h3 b z).1,LC (h3 b z).2 d.size⟩,⟨x,q,h4.turned d fun _ _ z=>z⟩,⟨_,_,⟨by simp,p,?_,?_,?_⟩,fun _=>⟨rfl,rfl⟩⟩,fun b z=>(j b z).1,fun b z=>?_,fun b z=>⟨?_,?_⟩,fun b z=>?_,m.tr d⟩,fun b z=>?_⟩,d⟩
 ·exact Sl.nil _ _ _ _
 ·refine⟨[],Sl.nil _ _ _ _,fun i g r=>by simp[noIx]at r⟩
 ·intro b z;by_cases k:b=c
  ·omega
  ·simp[k]at z
 ·by_cases k:b=c
  ·have:=m.size;omega
  ·simp[k]at z
 ·apply LK;intro k;exact(j b k).2 z
 ·have:=(h3 b z).2;rw[if_neg (by omega)]
 ·have:=h4.bnd b z;simp only[ite_eq_right_iff];omega
 ·rcases z with z|z|z
  ·exact .inl (l b (.inl z)).1
  ·exact .inl (l b (.inr z)).1
  ·by_cases k:b=c
   ·right;omega
   ·simp[k]at z
theorem fB.bound{w0 w:World}{a:Nat->Prop}{d q:Nat}{D:Dk}{s:St}(h:fB w0 w a d q D s):fB w0 w (fun b=>a b∧b<w.heap.size) d q D s:=by obtain⟨S,rs,j,e,h1,h2,h3,h4,f,g,c,i⟩:=h;exact⟨S,rs,j,e,h1,h2,h3,h4,f,g,fun b z=>⟨c b z,(c b z).2⟩,i⟩
def Y0(w:World)(r c:Nat)(w':World):Prop:=∃d q p v a b,eH w w' r d q p v a b (I4 c emp) noSt noIx
theorem qf{w W:World}{j P:Nat->Prop}{r d q v a g:Nat}(G:fB w W j d q (I4 g emp) noSt)(K:¬j r)(C:w.heap.size<=r)(F:nk w W P v a (I4 g emp) noSt)(L:¬P r)(Q:∀b,j b->¬P b)(O:∀b,P b->b<W.heap.size)(M:g<=16777216)
  (B:W.heap[r]?=some (.cells #[pt d,pt q,.pointer none,pt v,pt a,.pointer none] 39)):
  CZ 86 #[pt r] W fun e w'=>e=.returned (.bool true)∧Y0 w r g w':=by
 obtain⟨Z,E⟩:=EX (Y0 w r g);have HZ:Hid (Z=Y0 w r g):=E;rw[<-E];obtain⟨l,m,N⟩:∃l m,∀f,TF W f->f.cell? ⟨a,2,none⟩=some (.slice l 0 m):=by obtain⟨S,rs,tv,cv,h1,h3,h4,h6,h7,h8⟩:=F;obtain⟨l,m,rfl,-,-⟩:=h4.commits.choose_spec.1.value;exact⟨l,m,fun f t=>g9 (j9 h4.blk t id) 2 _ rfl⟩
 have lr:=i6 B;have V:Hid (∀f,TF W f->CZ 30 #[pt q] f fun e w'=>e=.returned (.int .i64 0)∧f=w'):=fun f t=>by obtain⟨S,rs,tv,cv,h1,h2,h3,h4,h5,h6,h7,h8⟩:=G.still t;exact O4 h4
 have X:Hid (∀f,TF W f->CZ 13 #[pt d,.int .i64 0] f fun e w'=>∃p,e=.returned (.tuple #[pt p,.int .i64 0])∧J4 w w' (fun b=>j b∨W.heap.size<=b) d q p (I4 g emp) noSt noIx∧TF W w'):=fun f t=>(tf (G.still t) rfl rfl 0).mono fun e w'⟨p,a,b,c⟩=>⟨p,a,b.mono fun x z=>z.imp id (LR t.size),t.tr c⟩
 have Y:Hid (∀f,TF W f->CZ 102 #[pt v,.int .i64 0] f fun e w'=>∃b,e=.returned (.tuple #[pt b,.int .i64 0])∧gu w w' (fun c=>P c∨f.heap.size<=c) v a b (I4 g emp) noSt noIx∧TF f w'):=fun f t=>AP (F.still t) (vN g M) rfl 0
 have A:Hid (∀f,TF W f->(f.cell? ⟨r,0,none⟩=some (pt d)∧f.cell? ⟨r,1,none⟩=some (pt q))∧(f.cell? ⟨r,3,none⟩=some (pt v)∧f.cell? ⟨r,4,none⟩=some (pt a)∧f.cell? ⟨a,2,none⟩=some (.slice l 0 m))∧r<f.heap.size∧f.frozen? ⟨r,2,none⟩=false∧f.frozen? ⟨r,5,none⟩=false∧f.cell? ⟨r,2,none⟩=some (.pointer none)∧f.cell? ⟨r,5,none⟩=some (.pointer none)):=fun f t=>by have h1:=j9 B t id;exact⟨⟨g9 h1 0 _ rfl,g9 h1 1 _ rfl⟩,⟨g9 h1 3 _ rfl,g9 h1 4 _ rfl,N f t⟩,i6 h1,j7 h1 2,j7 h1 5,g9 h1 2 _ rfl,g9 h1 5 _ rfl⟩
 have U:Hid (∀i w2 p b,J4 w i (fun b=>j b∨W.heap.size<=b) d q p (I4 g emp) noSt noIx->TF W i->gu w w2 (fun c=>P c∨i.drew.heap.size<=c) v a b (I4 g emp) noSt noIx->TF i w2->Y0 w r g ((w2.setCell ⟨r,2,none⟩ (pt p)).setCell ⟨r,5,none⟩ (pt b))):=fun i w2 p b h n k s=>by
  have hb:=j9 (j9 B n id) s id;have H:d7 (fun b=>b=r) w2 ((w2.setCell ⟨r,2,none⟩ (pt p)).setCell ⟨r,5,none⟩ (pt b)):=((d7.refl (fun b=>b=r) w2).set (p:=⟨r,2,none⟩) rfl _).set (p:=⟨r,5,none⟩) rfl _;have e1:=j8 (j8 hb (o:=2) (pt p)) (o:=5) (pt b);have z0:=(d7.drew (fun _=>False) i).size;have z1:=n.size;have z2:=s.size;have z3:=H.size;have n1:∀b,(j b∨W.heap.size<=b)∧w.heap.size<=b∧b<i.heap.size->¬b=r:=fun b z y=>by rw[y]at z;exact z.1.elim K fun z=>by omega
  have n2:∀b,(P b∨i.drew.heap.size<=b)∧w.heap.size<=b∧b<w2.heap.size->¬b=r:=fun b z y=>by rw[y]at z;exact z.1.elim L fun z=>by omega
  refine⟨d,q,p,v,a,b,_,_,⟨((h.bound2).still s).turned H n1 fun b y=>by rw[y];exact C,(k.bound).turned H n2 fun b y=>by rw[y];exact C,fun c x y=>?_,fun z=>n1 r z rfl,fun z=>n2 r z rfl,fun c x=>⟨x.2.1,by omega⟩,fun c x=>⟨x.2.1,by omega⟩,C,by simpa using e1⟩⟩;rcases x.1 with T|T<;>rcases y.1 with u|u
  ·exact Q c T u
  ·omega
  ·have:=O c u;omega
  ·omega
 have D:Hid (TF W W.drew):=i7 TD;clear E G K C F M L B Q O N lr;go_enter func86,ntmps86;go_wp2
 go_region_held3 (fun W=>W.cell? ⟨r,0,none⟩=some (pt d)∧W.cell? ⟨r,1,none⟩=some (pt q))
  (first|(exact(A.o _ D.o).1)|(exact(A.o _ n).1)|go_keep)
  (first
   |(go_fit(V.o _ D.o);rintro e i⟨rfl,rfl⟩)
   |(go_fit(X.o _ D.o);rintro e i⟨p,rfl,u,n⟩))
 go_wp2;have Q1:Hid (TF W i.drew):=i7 (n.tr TD);have J:=i7 (And.intro u n);clear u
 go_region_held3 (fun W=>W.cell? ⟨r,3,none⟩=some (pt v)∧W.cell? ⟨r,4,none⟩=some (pt a)∧W.cell? ⟨a,2,none⟩=some (.slice l 0 m))
  (first|(exact(A.o _ Q1.o).2.1)|(exact(A.o _ s).2.1)|go_keep)
  (first
   |(go_fit(Y.o _ Q1.o);rintro e w2⟨b,rfl,I,R⟩;have s:=Q1.o.tr R;replace I:=i7 I))
 obtain⟨-,-,l1,l2,l3,l4,l5⟩:=A.o _ s;go_wp2;go_ret;rw[HZ.o];exact⟨rfl,U.o i w2 p b J.o.1 J.o.2 I.o (TD.tr R)⟩
theorem tk{w W:World}{S0 n:Nat->Prop}{r d v g:Nat}(G:g<=16777216)(O:J0 W S0 d ⟨g,[],[],[],[],0,false⟩)(A:∀b,S0 b->(w.heap.size<=b∧b<W.heap.size)∧¬b=r)(N:G9 W n v ⟨g,[],[],[],[],0,false⟩)(j:∀b,n b->(w.heap.size<=b∧b<W.heap.size)∧¬S0 b∧¬b=r)(C:w.heap.size<=r)(tw:TF w W)
  (B:W.heap[r]?=some (.cells #[pt d,.pointer none,.pointer none,pt v,.pointer none,.pointer none] 39)):
  CZ 57 #[pt r] W fun e w'=>e=.returned (.bool true)∧Y0 w r g w':=by
 obtain⟨Y,H⟩:=EX (Y0 w r g);have X:Hid (Y=Y0 w r g):=H;rw[<-H];have lr:=i6 B;have V:Hid (CZ 25 #[pt d] W fun e w'=>∃q,e=.returned (.tuple #[pt q,.int .i64 0])∧fB w w' (fun b=>(S0 b∨W.heap.size<=b)∧b<w'.heap.size) d q (I4 g emp) noSt∧d7 S0 W w'):=i7 ((fB.opened G O (fun b z=>(A b z).1) tw).mono fun e w'⟨q,a,b,c⟩=>⟨q,a,b.bound,c⟩);have U:Hid (∀f,d7 S0 W f->CZ 101 #[pt v] f fun e w'=>∃a,e=.returned (.tuple #[pt a,.int .i64 0])∧nk w w' (fun b=>(n b∨f.heap.size<=b)∧b<w'.heap.size) v a (I4 g emp) noSt∧d7 n f w'):=fun f t=>by
  refine(pB (D1:=⟨g,[⟨emp,0⟩],[(logB,0)],[],[⟨emp,logB,0⟩],0,false⟩) (D2:=I4 g emp) (N.turned t fun b z=>(j b z).2.1) (pX g G) (by simp) (by simp) (fun b z=>LC (j b z).1.2 t.size) rfl rfl rfl).mono fun e w'⟨S,Z,L,D,M,r',rs,tv,cv,a5,E,F⟩=>?_
  have z:=t.size;have zt:=tw.size;have u1:TF w f:=tw.comp t fun i hi y=>y.elim id fun y=>by have:=(A i y).1.1;omega
  refine⟨r',a5,⟨S,rs,tv,cv,Z,fun b y=>⟨(L b y).elim (fun y=>(j b y).1.1) fun y=>by omega,D b y⟩,E,fun b y=>⟨by have:=(F b y).1;omega,(F b y).2⟩,fun b y=>?_,u1.comp M fun i hi y=>y.elim id fun y=>by have:=(j i y).1.1;omega⟩,M⟩
  ·rcases y with y|y
   ·exact⟨⟨L b y,D b y⟩,D b y⟩
   ·exact⟨⟨.inr (F b y).1,E.bnd b y⟩,E.bnd b y⟩
 have T:Hid (∀f,d7 S0 W f->f.cell? ⟨r,3,none⟩=some (pt v)):=fun f t=>g9 (j9 B t fun z=>(A r z).2 rfl) 3 _ rfl
 have K:Hid (∀f w2,d7 S0 W f->d7 n f w2->w2.heap[r]?=some (.cells #[pt d,.pointer none,.pointer none,pt v,.pointer none,.pointer none] 39)):=fun f w2 t m=>j9 (j9 B t fun z=>(A r z).2 rfl) m fun z=>(j r z).2.2 rfl
 have R:Hid (∀f w2 q a,fB w f (fun b=>(S0 b∨W.heap.size<=b)∧b<f.heap.size) d q (I4 g emp) noSt->d7 S0 W f->nk w w2 (fun b=>(n b∨f.heap.size<=b)∧b<w2.heap.size) v a (I4 g emp) noSt->d7 n f w2->CZ 86 #[pt r] ((w2.setCell ⟨r,1,none⟩ (pt q)).setCell ⟨r,4,none⟩ (pt a)) fun e w'=>e=.returned (.bool true)∧Y0 w r g w'):=fun f w2 q a h l k m=>by
  have s:w2.heap[r]?=some (.cells #[pt d,.pointer none,.pointer none,pt v,.pointer none,.pointer none] 39):=K.o f w2 l m;have I:d7 (fun b=>b=r) w2 ((w2.setCell ⟨r,1,none⟩ (pt q)).setCell ⟨r,4,none⟩ (pt a)):=((d7.refl (fun b=>b=r) w2).set (p:=⟨r,1,none⟩) rfl _).set (p:=⟨r,4,none⟩) rfl _;have e1:=j8 (j8 s (o:=1) (pt q)) (o:=4) (pt a);have hz:=l.size;have ab:=m.size;have ac:=I.size;have n1:∀b,(S0 b∨W.heap.size<=b)∧b<f.heap.size->¬b=r:=fun b z y=>by rw[y]at z;exact z.1.elim (fun z=>(A r z).2 rfl) fun z=>by omega
  have n2:∀b,(n b∨f.heap.size<=b)∧b<w2.heap.size->¬b=r:=fun b z y=>by rw[y]at z;exact z.1.elim (fun z=>(j r z).2.2 rfl) fun z=>by omega
  refine qf (((h.turned m (fun b z y=>?_) fun b y=>(j b y).1.1).turned I n1 fun b y=>by rw[y];exact C)) (fun z=>n1 r z rfl) C (k.turned I n2 fun b y=>by rw[y];exact C) (fun z=>n2 r z rfl) (fun b x y=>?_) (fun b x=>by have:=x.2;omega) G (by simpa using e1)
  ·exact z.1.elim (fun z=>(j b y).2.1 z) fun z=>by have:=(j b y).1.2;omega
  ·rcases x.1 with P|P<;>rcases y.1 with u|u
   ·exact(j b u).2.1 P
   ·have:=x.2;omega
   ·have:=(j b u).1.2;omega
   ·have:=x.2;omega
 have r0:=g9 B 0 _ rfl;clear H O A N j C tw B;go_enter func57,ntmps57
 go_wp2_with(first
  |(go_fit V.o;rintro e f⟨q,rfl,u,l⟩;have r3:=T.o _ l;replace u:=i7 u;replace l:=i7 l)
  |(go_fit(U.o _ l.o);rintro e w2⟨a,rfl,Q,m⟩;have s:=K.o _ _ l.o m;have f1:=j7 s 1;have f4:=j7 s 4;have g1:=g9 s 1 _ rfl;have g4:=g9 s 4 _ rfl;have l2:=i6 s;clear s;have aa:=R.o f w2 q a u.o l.o Q m;clear Q m)
  |(go_fit aa;rintro e w3⟨rfl,J⟩;replace J:=i7 J))
 go_ret;rw[X.o];exact⟨rfl,J.o⟩
def qg(w:World)(a:Nat)(e:Ending)(w':World):Prop:=∃r,e=.returned (.tuple #[pt r,.bool true])∧Y0 w r a w'
theorem qh(a:Nat)(h:a<=16777216)(w:World):CZ 14 #[.int .i64 a] w (qg w a):=by
 obtain⟨D,n⟩:=EX (qg w a);have C:Hid (D=qg w a):=n;rw[<-n];obtain⟨g,m⟩:=EX (w.alloc (.cells #[.pointer none,.pointer none,.pointer none,.pointer none,.pointer none,.pointer none] 39));have B:Hid (g=w.alloc (.cells #[.pointer none,.pointer none,.pointer none,.pointer none,.pointer none,.pointer none] 39)):=m;obtain⟨q,k⟩:=A0 (w:=w) (.cells #[.pointer none,.pointer none,.pointer none,.pointer none,.pointer none,.pointer none] 39);rw[<-m]at q k;have A:Hid (CZ 24 #[.int .i64 a] g fun e w'=>∃d,e=.returned (.tuple #[pt d,.int .i64 0])∧A1 g w' d a):=i7 (AK a h g);have x:Hid (∀W,CZ 56 #[.int .i64 a] W fun e w'=>∃d,e=.returned (.tuple #[pt d,.int .i64 0])∧K1 W w' d a):=fun W=>Em a h W
 have Q:=i6 k;have t:Hid (∀c w2 d v,A1 g c d a->K1 c w2 v a->w2.heap[w.heap.size]?=some (.cells #[.pointer none,.pointer none,.pointer none,.pointer none,.pointer none,.pointer none] 39)):=fun c w2 d v h1 h2=>j9 (j9 k h1.2 id) h2.2 id
 have u:Hid (∀c w2 d v,A1 g c d a->K1 c w2 v a->CZ 57 #[pt w.heap.size] ((w2.setCell ⟨w.heap.size,0,none⟩ (pt d)).setCell ⟨w.heap.size,3,none⟩ (pt v)) fun e w'=>e=.returned (.bool true)∧Y0 w w.heap.size a w'):=fun c w2 d v h1 h2=>by have f:w2.heap[w.heap.size]?=some (.cells #[.pointer none,.pointer none,.pointer none,.pointer none,.pointer none,.pointer none] 39):=t.o c w2 d v h1 h2;have j:d7 (fun b=>b=w.heap.size) w2 ((w2.setCell ⟨w.heap.size,0,none⟩ (pt d)).setCell ⟨w.heap.size,3,none⟩ (pt v)):=((d7.refl (fun b=>b=w.heap.size) w2).set (p:=⟨w.heap.size,0,none⟩) rfl _).set (p:=⟨w.heap.size,3,none⟩) rfl _;have E:=j8 (j8 f (o:=0) (pt d)) (o:=3) (pt v);obtain⟨f1,u1⟩:=h1;obtain⟨F,u2⟩:=h2;have N:=u1.size;have O:=u2.size;have P:=j.size;refine tk h ((f1.turned u2 fun _ _ z=>z).turned j fun b z y=>by omega) (fun b z=>⟨⟨by omega,by omega⟩,by omega⟩) (F.turned j fun b z y=>by omega) (fun b z=>⟨⟨by omega,by omega⟩,by omega,by omega⟩) (LS _) (((q.tr u1).tr u2).comp j fun i L z=>z.elim id fun z=>by omega) (by simpa using E)
 clear n m q k h;go_enter func14,ntmps14;go_wp2_with fail;rw[<-B.o]
 go_wp2_with(first
  |(go_fit A.o;rintro e c⟨d,rfl,l⟩;replace l:=i7 l)
  |(go_fit(x.o c);rintro e w2⟨v,rfl,r⟩;have f:=t.o _ _ _ _ l.o r;have H:=j7 f 0;have I:=j7 f 3;have J:=g9 f 0 _ rfl;have K:=g9 f 3 _ rfl;have l2:=i6 f;clear f;have G:=u.o c w2 d v l.o r;clear r)
  |(go_fit G;rintro e M⟨rfl,s⟩;replace s:=i7 s))
 rw[C.o];exact⟨_,rfl,s.o⟩
end Go.Proofs.YtofcogekgcgjhaaGreatDoor
