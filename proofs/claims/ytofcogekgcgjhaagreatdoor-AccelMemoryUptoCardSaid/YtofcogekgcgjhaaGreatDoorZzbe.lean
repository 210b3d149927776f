/- Packed. -/
import Derived.Test.YtofcogekgcgjhaaGreatDoorZzba
import Derived.Test.YtofcogekgcgjhaaGreatDoorZzbd
set_option maxRecDepth 100000
set_option maxHeartbeats 8000000
namespace Go.Proofs.YtofcogekgcgjhaaGreatDoor
open Go.RowKit Go.Mine Go.Mine.Ac Go.Proofs.Tryz
theorem mt{w:World}{V:Nat->Nat}{p:Nat}{R U T:Value}{x:Ix}(h:ed w V p R U T x)(N:G0 x)(n:Int)(M:n<0∨x.len<=n):
  CZ 59 #[pt p,.int .i64 n] w (RT (.tuple #[zeroRow,zeroStg,.bool false]) w):=by
 obtain⟨a,y⟩:=EX ((w.alloc (.cells #[.slice none 0 0,.int .i64 0,.int .i64 0,.int .i64 0,.string ⟨#[]⟩] 48)).alloc (.cells #[.int .i64 0,.int .i64 0,.int .i64 0,.int .u32 0] 24));have K:Hid (a=(w.alloc (.cells #[.slice none 0 0,.int .i64 0,.int .i64 0,.int .i64 0,.string ⟨#[]⟩] 48)).alloc (.cells #[.int .i64 0,.int .i64 0,.int .i64 0,.int .u32 0] 24)):=y;obtain⟨d,b1,b2⟩:=p8 (w:=w) (.cells #[.slice none 0 0,.int .i64 0,.int .i64 0,.int .i64 0,.string ⟨#[]⟩] 48) (.cells #[.int .i64 0,.int .i64 0,.int .i64 0,.int .u32 0] 24);rw[<-y]at d b1 b2;have O:Hid (CZ 15 #[pt p] a (RT (.int .i64 x.len) a)):=eC (h.turned d fun _ _ z=>z) N;have J:Hid (∀W,TF a W->W.heap[w.heap.size]?=some (.cells #[.slice none 0 0,.int .i64 0,.int .i64 0,.int .i64 0,.string ⟨#[]⟩] 48)∧W.heap[w.heap.size+1]?=some (.cells #[.int .i64 0,.int .i64 0,.int .i64 0,.int .u32 0] 24)):=fun W t=>⟨j9 b1 t id,j9 b2 t id⟩
 have P:Hid (TF w a):=d;have Q:Hid (∀W,TF a W->∃f,f=((((((((W.setCell ⟨w.heap.size,0,none⟩ (.slice none 0 0)).setCell ⟨w.heap.size,1,none⟩ (.int .i64 0)).setCell ⟨w.heap.size,2,none⟩ (.int .i64 0)).setCell ⟨w.heap.size,3,none⟩ (.int .i64 0)).setCell ⟨w.heap.size,4,none⟩ (.string ⟨#[]⟩)).setCell ⟨w.heap.size+1,0,none⟩ (.int .i64 0)).setCell ⟨w.heap.size+1,1,none⟩ (.int .i64 0)).setCell ⟨w.heap.size+1,2,none⟩ (.int .i64 0)).setCell ⟨w.heap.size+1,3,none⟩ (.int .u32 0)∧TF w f):=fun W t=>by have X:TF w W:=d.tr t;have c:=LS w.heap.size;have l1:=Nat.le_succ w.heap.size;exact⟨_,rfl,((((((((X.fresh c _).fresh c _).fresh c _).fresh c _).fresh c _).fresh l1 _).fresh l1 _).fresh l1 _).fresh l1 _⟩
 generalize x.len=L at *;clear y d b1 b2 h N;by_cases u:0<=n
 ·have S:decide (0<=n)=true:=by simp[u]
  have Y:decide (n<L)=false:=by simp;omega
  clear u M;go_enter func59,ntmps59;go_wp2_with fail;rw[<-K.o];go_wp2_with(go_fit O.o;rintro e b⟨rfl,q⟩;obtain⟨k1,k2⟩:=J.o b q;have A:b.cell? ⟨w.heap.size,0,none⟩=some (.slice none 0 0):=g9 k1 0 _ rfl;have B:b.cell? ⟨w.heap.size,1,none⟩=some (.int .i64 0):=g9 k1 1 _ rfl;have C:b.cell? ⟨w.heap.size,2,none⟩=some (.int .i64 0):=g9 k1 2 _ rfl;have D:b.cell? ⟨w.heap.size,3,none⟩=some (.int .i64 0):=g9 k1 3 _ rfl;have E:b.cell? ⟨w.heap.size,4,none⟩=some (.string ⟨#[]⟩):=g9 k1 4 _ rfl;have F:b.cell? ⟨w.heap.size+1,0,none⟩=some (.int .i64 0):=g9 k2 0 _ rfl;have G:b.cell? ⟨w.heap.size+1,1,none⟩=some (.int .i64 0):=g9 k2 1 _ rfl;have H:b.cell? ⟨w.heap.size+1,2,none⟩=some (.int .i64 0):=g9 k2 2 _ rfl;have I:b.cell? ⟨w.heap.size+1,3,none⟩=some (.int .u32 0):=g9 k2 3 _ rfl;have g:=j7 k1 0;have f1:=j7 k1 1;have i:=j7 k1 2;have j:=j7 k1 3;have k:=j7 k1 4;have l:=j7 k2 0;have m:=j7 k2 1;have r:=j7 k2 2;have s:=j7 k2 3;have l1:=i6 k1;have l2:=i6 k2;clear k1 k2;replace q:=i7 q);refine bodyPost_ret (v:=.tuple #[zeroRow,zeroStg,.bool false]) (by simp[results,Tryz.results59,go_sem,A,B,C,D,E,F,G,H,I,g,f1,i,j,k,l,m,r,s,l1,l2]) rfl ?_;obtain⟨f,e,t⟩:=Q.o b q.o;rw[<-e];exact⟨rfl,t⟩
 ·have S:decide (0<=n)=false:=by simp;omega
  clear u M;obtain⟨k1,k2⟩:=J.o a TQ;have A:a.cell? ⟨w.heap.size,0,none⟩=some (.slice none 0 0):=g9 k1 0 _ rfl;have B:a.cell? ⟨w.heap.size,1,none⟩=some (.int .i64 0):=g9 k1 1 _ rfl;have C:a.cell? ⟨w.heap.size,2,none⟩=some (.int .i64 0):=g9 k1 2 _ rfl;have D:a.cell? ⟨w.heap.size,3,none⟩=some (.int .i64 0):=g9 k1 3 _ rfl;have E:a.cell? ⟨w.heap.size,4,none⟩=some (.string ⟨#[]⟩):=g9 k1 4 _ rfl;have F:a.cell? ⟨w.heap.size+1,0,none⟩=some (.int .i64 0):=g9 k2 0 _ rfl;have G:a.cell? ⟨w.heap.size+1,1,none⟩=some (.int .i64 0):=g9 k2 1 _ rfl;have H:a.cell? ⟨w.heap.size+1,2,none⟩=some (.int .i64 0):=g9 k2 2 _ rfl;have I:a.cell? ⟨w.heap.size+1,3,none⟩=some (.int .u32 0):=g9 k2 3 _ rfl;have g:=j7 k1 0;have f1:=j7 k1 1;have i:=j7 k1 2;have j:=j7 k1 3;have k:=j7 k1 4;have l:=j7 k2 0;have m:=j7 k2 1;have r:=j7 k2 2;have s:=j7 k2 3;have l1:=i6 k1;have l2:=i6 k2;clear k1 k2;go_enter func59,ntmps59;go_wp2_with fail;rw[<-K.o];go_wp2;refine bodyPost_ret (v:=.tuple #[zeroRow,zeroStg,.bool false]) (by simp[results,Tryz.results59,go_sem,A,B,C,D,E,F,G,H,I,g,f1,i,j,k,l,m,r,s,l1,l2]) rfl ?_;exact⟨rfl,P.o⟩
def Dn(w:World)(a:World)(x:Ix)(n:Int)(g:Nat)(b:Value)(wr:World):Prop:=∃i:Nat,i+g=x.graphs.length∧b=.int .i64 i∧Ch.totLn (x.links.take i)<=n∧TF a wr
def mu(w:World)(c:Nat->Nat)(g:Gr)(r:Rw)(e:Ending)(w':World):Prop:=∃a cap,e=.returned (.tuple #[dD a cap r,J3 (W6 g),.bool true])∧p7 w' (fun b=>c b=4) a cap r.par∧TF w w'
theorem mv{w:World}{A:Nat->Nat}{p:Nat}{dv lv gv:Value}{x:Ix}(h:ed w A p dv lv gv x)(F:G0 x)(n:Int){a:Gr}{f:Rw}(hf:E9 x n=some (a,f)):
  CZ 59 #[pt p,.int .i64 n] w (mu w A a f):=by
 obtain⟨Z,hZ⟩:=EX (mu w A a f);have HZ:Hid (Z=mu w A a f):=hZ;rw[<-hZ];obtain⟨ak,au,-⟩:=fd F hf;obtain⟨j,hV⟩:=EX ((w.alloc (.cells #[.slice none 0 0,.int .i64 0,.int .i64 0,.int .i64 0,.string ⟨#[]⟩] 48)).alloc (.cells #[.int .i64 0,.int .i64 0,.int .i64 0,.int .u32 0] 24));have aC:Hid (j=(w.alloc (.cells #[.slice none 0 0,.int .i64 0,.int .i64 0,.int .i64 0,.string ⟨#[]⟩] 48)).alloc (.cells #[.int .i64 0,.int .i64 0,.int .i64 0,.int .u32 0] 24)):=hV;obtain⟨t0,b1,b2⟩:=p8 (w:=w) (.cells #[.slice none 0 0,.int .i64 0,.int .i64 0,.int .i64 0,.string ⟨#[]⟩] 48) (.cells #[.int .i64 0,.int .i64 0,.int .i64 0,.int .u32 0] 24);rw[<-hV]at t0 b1 b2;have HL:Hid (CZ 15 #[pt p] j (RT (.int .i64 x.len) j)):=eC (h.turned t0 fun _ _ z=>z) F;have HB:Hid (∀W,TF j W->W.heap[w.heap.size]?=some (.cells #[.slice none 0 0,.int .i64 0,.int .i64 0,.int .i64 0,.string ⟨#[]⟩] 48)∧W.heap[w.heap.size+1]?=some (.cells #[.int .i64 0,.int .i64 0,.int .i64 0,.int .u32 0] 24)):=fun W t=>⟨j9 b1 t id,j9 b2 t id⟩
 have aB:Hid (TF w j):=t0;have az:Hid (∀W,TF j W->ed W A p dv lv gv x):=fun W t=>(h.turned t0 fun _ _ z=>z).turned t fun _ _ z=>z
 have H:Hid (G0 x):=F;have am:Hid (∀b,A b=4->b<w.heap.size):=fun b J=>h.bnd b (by omega)
 have HF:Hid (E9 x n=some (a,f)):=hf;have HN:Hid (0<=n∧n<x.len):=⟨ak,au⟩;obtain⟨ga,gc,aE⟩:=h.graphs.len;subst aE;obtain⟨L,M⟩:=EX x.graphs.length;have C:Hid (L=x.graphs.length∧L<=8):=⟨M,by rw[M,F.both];exact F.many⟩;have aA:Hid (∀W,TF j W->W.cell? ⟨p,2,none⟩=some (.slice ga L gc)∧p<W.heap.size):=fun W t=>by have J:=((h.turned t0 fun _ _ z=>z).turned t fun _ _ z=>z).blk;rw[M];exact⟨g9 J 2 _ rfl,i6 J⟩
 have e1:decide (0<=n)=true:=by simp[ak]
 obtain⟨XL,ae⟩:=EX x.len;have aH:Hid (XL=x.len):=ae;rw[<-ae]at HL;have e2:decide (n<XL)=true:=by simp;omega
 clear hZ hV t0 b1 b2 h F hf ak au M ae;go_enter func59,ntmps59;go_wp2_with fail;rw[<-aC.o];go_wp2_with(go_fit HL.o;rintro e w1⟨rfl,q⟩;obtain⟨p2,p3⟩:=aA.o w1 q;replace q:=i7 q);have B0:Hid (Dn w j x n L (.int .i64 0) w1):=⟨0,by have:=C.o;omega,rfl,by simp only[List.take_zero,Ch.totLn];exact HN.o.1,q.o⟩;go_loopg[22] L (fun g iv wr=>Dn w j x n g iv wr)
 case atStart=>exact B0.o
 case round=>
  clear B0 p2 p3;obtain⟨i,ai,rfl,S,R⟩:=hrel;have G:Hid (i+gk=x.graphs.length∧Ch.totLn (x.links.take i)<=n):=⟨ai,S⟩;have HT:Hid (TF j wr):=R;by_cases aF:i<L
  ·obtain⟨g,E⟩:∃g,x.graphs[i]?=some g:=⟨_,LB (by rw[<-C.o.1];exact aF)⟩;have aG:Hid (x.graphs[i]?=some g):=E;obtain⟨O,ag⟩:=R5 H.o E;obtain⟨b,off,cap,ra,rc,aq,af,ao,c0,c1,c2,c3,c4,c5,gok,al⟩:=(az.o wr R).graphs.at E;simp only[Value.slice.injEq]at aq;obtain⟨rfl,-,-⟩:=aq;have aD:b<wr.heap.size:=af;have an:=Q9 H.o i;have ap:=Q9 H.o (i+1);obtain⟨K,I⟩:=EX g.rows.length;obtain⟨B,D⟩:=EX g.base;rw[<-I]at c5 O;rw[<-D]at c0 O ag;have hw:wrap64 (B+(K:Int))=B+(K:Int):=by simp only[wrap64];omega
   obtain⟨k1,k2⟩:=HB.o wr R;have x0:wr.cell? ⟨w.heap.size,0,none⟩=some (.slice none 0 0):=g9 k1 0 _ rfl;have x1:wr.cell? ⟨w.heap.size,1,none⟩=some (.int .i64 0):=g9 k1 1 _ rfl;have x2:wr.cell? ⟨w.heap.size,2,none⟩=some (.int .i64 0):=g9 k1 2 _ rfl;have x3:wr.cell? ⟨w.heap.size,3,none⟩=some (.int .i64 0):=g9 k1 3 _ rfl;have x4:wr.cell? ⟨w.heap.size,4,none⟩=some (.string ⟨#[]⟩):=g9 k1 4 _ rfl;have y0:wr.cell? ⟨w.heap.size+1,0,none⟩=some (.int .i64 0):=g9 k2 0 _ rfl;have y1:wr.cell? ⟨w.heap.size+1,1,none⟩=some (.int .i64 0):=g9 k2 1 _ rfl;have y2:wr.cell? ⟨w.heap.size+1,2,none⟩=some (.int .i64 0):=g9 k2 2 _ rfl;have y3:wr.cell? ⟨w.heap.size+1,3,none⟩=some (.int .u32 0):=g9 k2 3 _ rfl;have Y:=j7 k1 0;have f1:=j7 k1 1;have f2:=j7 k1 2;have f3:=j7 k1 3;have f4:=j7 k1 4;have aa:=j7 k2 0;have ab:=j7 k2 1;have ac:=j7 k2 2;have ad:=j7 k2 3;have l1:=i6 k1;have l2:=i6 k2;by_cases P:n<B+(K:Int)
   ·have d1:decide (n<B+(K:Int))=true:=by simp[P]
    obtain⟨r,Q,ah⟩:=gn H.o E S (by rw[<-D,<-I];exact P);rw[HF.o]at ah;simp only[Option.some.injEq,Prod.mk.injEq]at ah;obtain⟨rfl,rfl⟩:=ah;obtain⟨k,hk⟩:=EX ((n-a.base).toNat);rw[<-hk]at Q;have aj:n-B=(k:Int):=by rw[hk,<-D];omega
    have aI:k<K:=by rw[I];exact(LA.1 Q).1
    obtain⟨rb,s,rfl,av,aw,U,V,ar,r1,r2,r3,r4,r5⟩:=dM al k f Q;obtain⟨ax,ay⟩:=dq k (by omega);have aU:wrap64 (n-B)=(k:Int):=by rw[aj];exact ax
    have aV:IntKind.i64.wrap (n-B)=(k:Int):=by rw[aj];exact ay
    have aS:rb<w.heap.size:=am.o rb av;have aJ:¬rb=w.heap.size:=by omega
    have aK:¬rb=w.heap.size+1:=by omega
    have aL:¬rb=wr.heap.size:=by omega
    have aM:¬w.heap.size=rb:=by omega
    have aN:¬w.heap.size+1=rb:=by omega
    have aO:¬wr.heap.size=w.heap.size:=by omega
    have aP:¬wr.heap.size=w.heap.size+1:=by omega
    have aQ:¬w.heap.size=wr.heap.size:=by omega
    have aR:¬w.heap.size+1=wr.heap.size:=by omega
    have HI:Hid (p7 wr (fun b=>A b=4) U V f.par∧B=a.base):=⟨ar,D⟩;clear hk aj ax ay Q P O ag an ap I D E ai S al gok k1 k2 ao af ar av;go_upto_region 6 with(fail)
    obtain⟨d,N⟩:=EX (wr.alloc (.cells #[.int .i64 B,.int .i64 a.h,.int .i64 a.p,.int .i64 a.m,.int .u32 a.seed,.slice (some ⟨rb,s,none⟩) K rc] 123));rw[<-N];have c:TF wr d:=by rw[N];exact TA
    have y:d.heap[wr.heap.size]?=some (.cells #[.int .i64 B,.int .i64 a.h,.int .i64 a.p,.int .i64 a.m,.int .u32 a.seed,.slice (some ⟨rb,s,none⟩) K rc] 123):=by rw[N];exact i8 _ _
    have z0:d.cell? ⟨wr.heap.size,0,none⟩=some (.int .i64 B):=g9 y 0 _ rfl;have z1:d.cell? ⟨wr.heap.size,1,none⟩=some (.int .i64 a.h):=g9 y 1 _ rfl;have z2:d.cell? ⟨wr.heap.size,2,none⟩=some (.int .i64 a.p):=g9 y 2 _ rfl;have z3:d.cell? ⟨wr.heap.size,3,none⟩=some (.int .i64 a.m):=g9 y 3 _ rfl;have z4:d.cell? ⟨wr.heap.size,4,none⟩=some (.int .u32 a.seed):=g9 y 4 _ rfl;have z5:d.cell? ⟨wr.heap.size,5,none⟩=some (.slice (some ⟨rb,s,none⟩) K rc):=g9 y 5 _ rfl;have zl:=i6 y;replace r1:=m6 r1 c id;replace r2:=m6 r2 c id;replace r3:=m6 r3 c id;replace r4:=m6 r4 c id;replace r5:=m6 r5 c id;have aT:rb<d.heap.size:=LC aw c.size;have X:Hid (TF j d∧TF wr d):=⟨HT.o.tr c,c⟩;obtain⟨k1,k2⟩:=HB.o d X.o.1;replace x0:=m6 x0 c id;replace x1:=m6 x1 c id;replace x2:=m6 x2 c id;replace x3:=m6 x3 c id;replace x4:=m6 x4 c id;replace y0:=m6 y0 c id;replace y1:=m6 y1 c id;replace y2:=m6 y2 c id;replace y3:=m6 y3 c id;clear Y f1 f2 f3 f4 aa ab ac ad l1 l2 c0 c1 c2 c3 c4 c5 aD aw y N c;have Y:=j7 k1 0;have f1:=j7 k1 1;have f2:=j7 k1 2;have f3:=j7 k1 3;have f4:=j7 k1 4;have aa:=j7 k2 0;have ab:=j7 k2 1;have ac:=j7 k2 2;have ad:=j7 k2 3;have l1:=i6 k1;have l2:=i6 k2;clear k1 k2;go_region_held3 (fun W=>W.cell? ⟨wr.heap.size,0,none⟩=some (.int .i64 B)∧W.cell? ⟨wr.heap.size,1,none⟩=some (.int .i64 a.h)∧W.cell? ⟨wr.heap.size,2,none⟩=some (.int .i64 a.p)∧W.cell? ⟨wr.heap.size,3,none⟩=some (.int .i64 a.m)∧W.cell? ⟨wr.heap.size,4,none⟩=some (.int .u32 a.seed)∧W.cell? ⟨wr.heap.size,5,none⟩=some (.slice (some ⟨rb,s,none⟩) K rc)∧W.cell? ⟨rb,s+k*5,none⟩=some (.slice U f.par.length V)∧W.cell? ⟨rb,s+k*5+1,none⟩=some (.int .i64 f.tree)∧W.cell? ⟨rb,s+k*5+2,none⟩=some (.int .i64 f.gen)∧W.cell? ⟨rb,s+k*5+3,none⟩=some (.int .i64 f.state)∧W.cell? ⟨rb,s+k*5+4,none⟩=some (.string f.bits)) (go_keep) (fail);go_wp2;refine bodyPost_ret (v:=.tuple #[dD U V f,J3 (W6 a),.bool true]) (by simp[results,Tryz.results59,go_sem,x0,x1,x2,x3,x4,y0,y1,y2,y3,Y,f1,f2,f3,f4,aa,ab,ac,ad,l1,l2,W6]) rfl ?_;rw[HZ.o];have l:w.heap.size<=w.heap.size:=LS _;have u:w.heap.size<=w.heap.size+1:=Nat.le_succ _;have tA:d7 (fun b=>w.heap.size<=b) wr d:=X.o.2.mono fun _ _ z=>z.elim
    have tB:TF w d:=aB.o.tr X.o.1;refine⟨U,V,rfl,HI.o.1.turned (T:=fun b=>w.heap.size<=b) ?_ fun b J z=>by have:=am.o b J;omega,?_⟩
    ·exact(((((((((tA.set (p:=⟨w.heap.size,0,none⟩) l _).set (p:=⟨w.heap.size,1,none⟩) l _).set (p:=⟨w.heap.size,2,none⟩) l _).set (p:=⟨w.heap.size,3,none⟩) l _).set (p:=⟨w.heap.size,4,none⟩) l _).set (p:=⟨w.heap.size+1,0,none⟩) u _).set (p:=⟨w.heap.size+1,1,none⟩) u _).set (p:=⟨w.heap.size+1,2,none⟩) u _).set (p:=⟨w.heap.size+1,3,none⟩) u _).draw
    ·exact(((((((((tB.fresh l _).fresh l _).fresh l _).fresh l _).fresh l _).fresh u _).fresh u _).fresh u _).fresh u _).draw
   ·have d1:decide (n<B+(K:Int))=false:=by simp;omega
    have HE:Hid (Ch.totLn (x.links.take (i+1))<=n):=i7 (by omega);clear P O ag an ap I D E ai S R al gok k1 k2 ao af;go_wp2;go_roundg (gk-1)
    case measure=>have:=G.o;have:=C.o;omega
    case rel=>exact⟨i+1,by have:=G.o;have:=C.o;omega,by have:=C.o;simp[wrap64];omega,HE.o,HT.o.new _⟩
  ·exfalso;have h1:=HN.o.2;have h2:i=x.graphs.length:=by have:=C.o.1;omega
   rw[eF H.o,<-h2]at h1;omega
def mw(w:World)(r:Rw)(e:Ending)(w':World):Prop:=∃a cap,e=.returned (.tuple #[dD a cap r,.bool true])∧Sl w' (fun b=>w.heap.size<=b) 3 1 (.slice a r.par.length cap) (ic r.par) r.par.length∧TF w w'
theorem nX{w:World}{rl:Nat->Nat}{p:Nat}{dv lv gv:Value}{x:Ix}(h:ed w rl p dv lv gv x)(D:G0 x)(n:Int){g:Gr}{r:Rw}(M:E9 x n=some (g,r)):
  CZ 20 #[pt p,.int .i64 n] w (mw w r):=by
 obtain⟨Z,K⟩:=EX (mw w r);have HZ:Hid (Z=mw w r):=K;rw[<-K];obtain⟨-,-,i,k,C,X,-⟩:=fd D M;have ae:r.par.length<=16:=((D.graph i g C).1.2.2 k r X).1;obtain⟨j,B⟩:=EX (w.alloc (.cells #[.slice none 0 0,.int .i64 0,.int .i64 0,.int .i64 0,.string ⟨#[]⟩] 48));have aa:Hid (j=w.alloc (.cells #[.slice none 0 0,.int .i64 0,.int .i64 0,.int .i64 0,.string ⟨#[]⟩] 48)):=B;have N:TF w j:=by rw[B];exact TA
 have P:j.heap[w.heap.size]?=some (.cells #[.slice none 0 0,.int .i64 0,.int .i64 0,.int .i64 0,.string ⟨#[]⟩] 48):=by rw[B];exact i8 _ _
 have Q:=mv (h.turned N fun _ _ z=>z) D n M;unfold mu at Q;have TV:Hid (TF w j):=N;have J:Hid (w.heap.size<j.heap.size):=i6 P;have ab:Hid (∀W,TF j W->W.heap[w.heap.size]?=some (.cells #[.slice none 0 0,.int .i64 0,.int .i64 0,.int .i64 0,.string ⟨#[]⟩] 48)):=fun W t=>j9 P t id
 have HC:Hid (∀(W c:World)a cap,p7 c (fun b=>rl b=4) a cap r.par->TF w c->TF c W->CZ 65 #[.slice a r.par.length cap] W fun e w'=>∃y A,e=.returned (.slice y r.par.length A)∧Sl w' (fun b=>W.heap.size<=b) 3 1 (.slice y r.par.length A) (ic r.par) r.par.length∧TF w w'∧TF W w'):=fun W c a cap C t t2=>by
  have U:=C.turned t2 fun _ _ z=>z
  refine(dj W (fun w' t'=>ez (U.turned t' fun _ _ z=>z)) (fun q=>by subst q;exact lN U) (by omega)).mono fun e w'⟨v,O,H,I⟩=>?_
  obtain⟨y,A,rfl,-,-⟩:=H.value;have G:=t.tr t2;exact⟨y,A,O,H,G.tr I,I⟩
 clear K h D M C X B N P;go_enter func20,ntmps20;go_wp2_with fail;rw[<-aa.o];go_wp2_with(first|(go_fit Q;rintro e c⟨a,cap,rfl,V,q⟩;have l:=i7 (And.intro V q);clear V q)|(go_fit(HC.o _ c a cap l.o.1 (TV.o.tr l.o.2) (TA.new _));rintro e2 w2⟨R,S,rfl,E,F,s⟩;obtain⟨G,Y,-⟩:=p8 (w:=c) (.cells #[.slice a r.par.length cap,.int .i64 r.tree,.int .i64 r.gen,.int .i64 r.state,.string r.bits] 48) (.cells #[.int .i64 (W6 g).h,.int .i64 (W6 g).p,.int .i64 (W6 g).m,.int .u32 ((W6 g).seed:Nat)] 24);have f:=j9 Y s id;have d:=ab.o w2 ((l.o.2.tr G).tr s);have c0:w2.cell? ⟨c.heap.size,0,none⟩=some (.slice a r.par.length cap):=g9 f 0 _ rfl;have c1:w2.cell? ⟨c.heap.size,1,none⟩=some (.int .i64 r.tree):=g9 f 1 _ rfl;have ad:w2.cell? ⟨c.heap.size,2,none⟩=some (.int .i64 r.gen):=g9 f 2 _ rfl;have c3:w2.cell? ⟨c.heap.size,3,none⟩=some (.int .i64 r.state):=g9 f 3 _ rfl;have c4:w2.cell? ⟨c.heap.size,4,none⟩=some (.string r.bits):=g9 f 4 _ rfl;have f0:=j7 f 0;have lb:=i6 f;have x0:w2.cell? ⟨w.heap.size,0,none⟩=some (.slice none 0 0):=g9 d 0 _ rfl;have O:w2.cell? ⟨w.heap.size,1,none⟩=some (.int .i64 0):=g9 d 1 _ rfl;have H:w2.cell? ⟨w.heap.size,2,none⟩=some (.int .i64 0):=g9 d 2 _ rfl;have I:w2.cell? ⟨w.heap.size,3,none⟩=some (.int .i64 0):=g9 d 3 _ rfl;have x4:w2.cell? ⟨w.heap.size,4,none⟩=some (.string ⟨#[]⟩):=g9 d 4 _ rfl;have g0:=j7 d 0;have g1:=j7 d 1;have g2:=j7 d 2;have g3:=j7 d 3;have g4:=j7 d 4;have lx:=i6 d;have ne1:¬c.heap.size=w.heap.size:=(by have:=l.o.2.size;have:=J.o;omega);have ac:¬w.heap.size=c.heap.size:=(fun z=>ne1 z.symm);have P2:=i7 (And.intro E (And.intro F (And.intro s (l.o.2.size))));clear E F s G Y f d));refine bodyPost_ret (v:=.tuple #[dD R S r,.bool true]) (by simp[results,Tryz.results20,go_sem,x0,O,H,I,x4,g0,g1,g2,g3,g4,lx,lb,ne1,ac]) rfl ?_;rw[HZ.o];obtain⟨E,F,s,af⟩:=P2.o;have u:w.heap.size<=w.heap.size:=LS _;have l1:w.heap.size<=c.heap.size:=by have:=J.o;omega
 refine⟨R,S,rfl,(E.turned (T:=fun b=>b=c.heap.size∨b=w.heap.size) ?_ fun b L z=>?_).widen fun b L=>?_,?_⟩
 ·exact((((((d7.refl (fun b=>b=c.heap.size∨b=w.heap.size) w2).set (p:=⟨c.heap.size,0,none⟩) (.inl rfl) _).set (p:=⟨w.heap.size,0,none⟩) (.inr rfl) _).set (p:=⟨w.heap.size,1,none⟩) (.inr rfl) _).set (p:=⟨w.heap.size,2,none⟩) (.inr rfl) _).set (p:=⟨w.heap.size,3,none⟩) (.inr rfl) _).set (p:=⟨w.heap.size,4,none⟩) (.inr rfl) _
 ·have:=J.o;simp at L;omega
 ·simp at L;omega
 ·exact(((((F.fresh l1 _).fresh u _).fresh u _).fresh u _).fresh u _).fresh u _
def je(w:World)(l:List Int)(e:Ending)(w':World):Prop:=∃a cap,e=.returned (.slice a l.length cap)∧Sl w' (fun b=>w.heap.size<=b) 3 1 (.slice a l.length cap) (ic l) l.length∧TF w w'
def Do(w:World)(l:List Gr)(g:Nat)(c a:Value)(wr:World):Prop:=∃i:Nat,i+g=l.length∧a=.int .i64 i∧Sl wr (fun b=>w.heap.size<=b) 3 1 c (ic ((l.take i).map fun g=>(g.rows.length:Int))) i∧d7 (fun b=>w.heap.size<=b) w wr
theorem sG{w:World}{E:Nat->Nat}{p:Nat}{dv D gv:Value}{x:Ix}(h:ed w E p dv D gv x)(s:G0 x):CZ 16 #[pt p] w (je w (I9 x)):=by
 obtain⟨Z,A⟩:=EX (je w (I9 x));have Y:Hid (Z=je w (I9 x)):=A;rw[<-A];obtain⟨ga,gc,rfl⟩:=h.graphs.len;obtain⟨L,j⟩:=EX x.graphs.length;have d:Hid (L=x.graphs.length∧L<=8):=i7 ⟨j,by rw[j,s.both];exact s.many⟩;have n:w.cell? ⟨p,2,none⟩=some (.slice ga L gc):=by rw[j];exact g9 h.blk 2 _ rfl
 have ae:=i6 h.blk;have X:Hid (L7 w E (.slice ga L gc) x.graphs):=i7 (by rw[j];exact h.graphs);have HR:Hid (∀b,E b≠0->b<w.heap.size):=h.bnd;have HK:Hid (∀g∈x.graphs,g.rows.length<=65536):=i7 fun g k=>by obtain⟨i,c⟩:=LM k;obtain⟨h1,h2,h3⟩:=(s.graph i g c).1.1;omega
 have F:Hid (Do w x.graphs L (.slice none 0 0) (.int .i64 0) w):=⟨0,by omega,rfl,Sl.nil _ _ _ _,TQ⟩;clear h s j A;go_enter func16,ntmps16;go_wp2;go_loopg[3,13] L (fun g D iv wr=>Do w x.graphs g D iv wr)
 case atStart=>exact F.o
 case round=>
  clear F n;obtain⟨i,R,rfl,B,a⟩:=hrel;obtain⟨U,V,rfl,-,-⟩:=B.value;have t:Hid (i+gk=x.graphs.length):=R;have H:Hid (Sl wr (fun b=>w.heap.size<=b) 3 1 (.slice U i V) (ic ((x.graphs.take i).map fun g=>(g.rows.length:Int))) i):=B;have v:Hid (d7 (fun b=>w.heap.size<=b) w wr):=a;clear R B;by_cases c:i<L
  ·have e1:decide ((i:Int)<(L:Int))=true:=LX (by omega);have e2:decide (i<L)=true:=LX c;obtain⟨g,k⟩:∃g,x.graphs[i]?=some g:=⟨_,LB (by rw[<-d.o.1];exact c)⟩;obtain⟨b,off,cap,ra,rc,Q,ab,aa,J,M,n,N,O,r,gok,ac⟩:=X.o.at k;simp only[Value.slice.injEq]at Q;obtain⟨rfl,-,-⟩:=Q;have f:¬w.heap.size<=b:=by omega
   replace J:=m6 J a f;replace M:=m6 M a f;replace n:=m6 n a f;replace N:=m6 N a f;replace O:=m6 O a f;replace r:=m6 r a f;have ad:b<wr.heap.size:=LC ab a.size;obtain⟨K,y⟩:=EX g.rows.length;rw[<-y]at r;have l:Hid ((x.graphs.take (i+1)).map (fun g=>(g.rows.length:Int))=(x.graphs.take i).map (fun g=>(g.rows.length:Int))++[(K:Int)]∧i<L):=i7 ⟨by rw[List.take_add_one,k,y];simp,c⟩;have W:Hid (i+1<=maxLen∧(i+1)*8<=140737488355328):=i7 (by have:=d.o;simp only[maxLen];omega);have u:Hid (TF wr ((wr.alloc (.cells #[.int .i64 g.base,.int .i64 g.h,.int .i64 g.p,.int .i64 g.m,.int .u32 g.seed,.slice ra K rc] 123)).alloc (.cells #[.int .i64 (K:Int)] 3))):=TA.new _;have SRC:Hid (Src prog 1 41 (.slice (some ⟨wr.heap.size+1,0,none⟩) 1 1) 1 [.int .i64 (K:Int)] ((wr.alloc (.cells #[.int .i64 g.base,.int .i64 g.h,.int .i64 g.p,.int .i64 g.m,.int .u32 g.seed,.slice ra K rc] 123)).alloc (.cells #[.int .i64 (K:Int)] 3))):=i7 (by have:=R6 (P:=prog) underlying41 (.int .i64 (K:Int)) rfl (wr.alloc (.cells #[.int .i64 g.base,.int .i64 g.h,.int .i64 g.p,.int .i64 g.m,.int .u32 g.seed,.slice ra K rc] 123));simpa using this);clear k gok ac aa y a f;go_wp2_with(at_builtin;refine m7 rfl _ _ 41 41 rfl (H.o.turned (T:=fun _=>False) u.o (fun _ _ q=>q)) underlying41 info3g rfl (by decide) rfl (.slice (some ⟨wr.heap.size+1,0,none⟩) 1 1) rfl SRC.o W.o.1 W.o.2 ?_;intro v5 w5 C S;obtain⟨a5,r,rfl,-,-⟩:=C.value;have I:=i7 (And.intro C S);clear C S);go_roundg (gk-1)
   case measure=>have:=t.o;have:=l.o.2;have:=d.o;omega
   case rel=>
    refine⟨i+1,by have:=t.o;have:=l.o.2;have:=d.o;omega,by have:=d.o;have:=l.o.2;simp[wrap64];omega,?_,v.o.tr (u.o.comp I.o.2 fun i c z=>z.elim False.elim id)⟩;rw[l.o.1];have e:ic ((x.graphs.take i).map (fun g=>(g.rows.length:Int))++[(K:Int)])=ic ((x.graphs.take i).map fun g=>(g.rows.length:Int))++[.int .i64 (K:Int)]:=by simp[ic]
    rw[e];refine I.o.1.widen fun b hb=>?_
    have h1:=v.o.size;have h2:=u.o.size;exact hb.elim id fun z=>by omega
  ·have e1:decide ((i:Int)<(L:Int))=false:=LD (by omega);have e2:decide (i<L)=false:=LD c;have G:Hid (x.graphs.take i=x.graphs∧i=x.graphs.length):=i7 ⟨LQ (by have:=d.o;omega),by have:=t.o;have:=d.o;omega⟩;clear c a;go_wp2;rw[Y.o];have h:=H.o;rw[G.o.1]at h;have e:(I9 x).length=i:=by unfold I9;rw[List.length_map];exact G.o.2.symm
   refine⟨U,V,by rw[e];rfl,?_,v.o.mono fun i c z=>by omega⟩;rw[e];exact h
def E5(l:List (List Int)):Nat->List Int
 |0=>[]
 |i+1=>E5 l i++[X0 ((l.getD i []).map fun p=>(E5 l i).getD p.toNat 0)]
theorem dd(l:List (List Int)):∀i,(E5 l i).length=i
 |0=>rfl
 |i+1=>by rw[E5,List.length_append,dd l i];rfl
theorem sH(l:List (List Int)):∀i,∀x∈E5 l i,1<=x∧x<=1024
 |0,x,h=>by simp[E5]at h
 |i+1,x,h=>by
  rw[E5]at h;rcases List.mem_append.1 h with h|h
  ·exact sH l i x h
  ·rw[List.mem_singleton.1 h];exact zG _
theorem BH{x:Int}(h:1<=x∧x<=1024):eO x:=⟨by omega,by omega⟩
def Ak(l:List (List Int)):Prop:=∀(i:Nat)c,l[i]?=some c->c.length<=16∧c.Nodup∧∀x∈c,0<=x∧x<(i:Int)
def Dp(w:World)(l:List (List Int))(g:Nat)(c d:Value)(wr:World):Prop:=∃(i:Nat)(a:Nat->Prop),i+g=l.length∧d=.int .i64 i∧Sl wr a 3 1 c (ic (E5 l i)) i∧(∀b,a b->w.heap.size<=b)∧TF w wr
def Dq(d:World)(c h:List Int)(g:Nat)(f e:Value)(wr:World):Prop:=∃(k:Nat)(a:Nat->Prop),k+g=c.length∧e=.int .i64 k∧Sl wr a 3 1 f (ic (h.take k)) k∧(∀b,a b->d.heap.size<=b)∧TF d wr
theorem vk{w:World}{S1 Q:Nat->Prop}{ga:Option Addr}{gc:Nat}{vs:List Value}{l:List (List Int)}(h:kB w S1 Q (.slice ga l.length gc) vs l)(hl:l.length<=65536)(hg:Ak l):
  CZ 202 #[.slice none 0 0,.slice ga l.length gc] w fun e w'=>∃a cap,e=.returned (.tuple #[.slice a l.length cap,.int .i64 0])∧Sl w' (fun b=>w.heap.size<=b) 3 1 (.slice a l.length cap) (ic (E5 l l.length)) l.length∧TF w w':=by
 obtain⟨Z,hZ⟩:∃Z:Ending->World->Prop,Z=fun e w'=>∃a cap,e=.returned (.tuple #[.slice a l.length cap,.int .i64 0])∧Sl w' (fun b=>w.heap.size<=b) 3 1 (.slice a l.length cap) (ic (E5 l l.length)) l.length∧TF w w':=⟨_,rfl⟩
 have HZ:Hid (Z=fun e w'=>∃a cap,e=.returned (.tuple #[.slice a l.length cap,.int .i64 0])∧Sl w' (fun b=>w.heap.size<=b) 3 1 (.slice a l.length cap) (ic (E5 l l.length)) l.length∧TF w w'):=hZ;rw[<-hZ];obtain⟨L,hL⟩:=EX l.length;have j:Hid (L=l.length∧L<=65536):=i7 ⟨hL,by omega⟩;have H:Hid (∀W,TF w W->kB W S1 Q (.slice ga l.length gc) vs l):=i7 fun W t=>h.turned t (fun _ _ z=>z) fun _ _ z=>z
 have HG:Hid (Ak l):=hg;rw[<-hL];have Q1:Hid (TF w (w.alloc (.cells #[] 3))):=i7 TA;have m0:Hid (0+0<=maxLen∧(0+0)*8<=140737488355328):=i7 (by decide);clear h hl hg hL hZ;go_enter func202,ntmps202;go_wp2_with(at_builtin;refine m7 rfl _ _ 41 41 rfl (go w 3 1) underlying41 info3k rfl (by decide) rfl (.slice none 0 0) rfl (Src.ofNil _ underlying41 0) m0.o.1 m0.o.2 ?_;intro v w2 af q;have T3:TF w w2:=Q1.o.comp q (fun i T z=>by have:w.heap.size<=i:=z.elim False.elim id;omega);have aq:Sl w2 (fun b=>w.heap.size<=b) 3 1 v (ic (E5 l 0)) 0:=(by rw[List.nil_append,Nat.zero_add]at af;exact af.widen fun b z=>z.elim id fun z=>LR Q1.o.size z);have B0:Hid (Dp w l L v (.int .i64 0) w2):=⟨0,_,by have:=j.o;omega,rfl,aq,fun b u=>u,T3⟩;clear af q T3 aq);go_loopg[6,7] L (fun g av iv wr=>Dp w l g av iv wr)
 case atStart=>exact B0.o
 case round=>
  obtain⟨i,G,an,rfl,ad,aj,q⟩:=hrel;obtain⟨aa,ac,rfl,-,-⟩:=ad.value;have TT:Hid (TF w wr):=q;have F:Hid (Sl wr G 3 1 (.slice aa i ac) (ic (E5 l i)) i∧(∀b,G b->w.heap.size<=b)):=⟨ad,aj⟩;have X:Hid (i+gk=l.length):=an;clear an ad aj q B0;by_cases K:i<L
  ·obtain⟨c,I⟩:∃c,l[i]?=some c:=⟨_,LB (by rw[<-j.o.1];exact K)⟩;have ab:=HG.o i c I;obtain⟨D,off,a,s,aE,am⟩:∃D off a s,ga=some ⟨D,off,none⟩∧∀W,TF w W->D<W.heap.size∧W.cell? ⟨D,off+i,none⟩=some (.slice a c.length s)∧p7 W Q a s c:=by obtain⟨b,off,cap,A,-,-,-,-,-,-⟩:=(H.o w TQ).1.opens (by have:=j.o;omega);simp only[Value.slice.injEq]at A;obtain⟨a,s,e1,-⟩:=(H.o w TQ).2 i c I;refine⟨b,off,a,s,A.1,fun W t=>?_⟩;obtain⟨h1,h2⟩:=H.o W t;obtain⟨b',aR,aL,aw,-,-,-,aD,-,aG⟩:=h1.opens (by have:=j.o;omega);simp only[Value.slice.injEq]at aw;have e:=A.1.symm.trans aw.1;simp only[Option.some.injEq,Addr.mk.injEq,and_true]at e;obtain⟨rfl,rfl⟩:=e;obtain⟨a2,aO,e2,e3⟩:=h2 i c I;rw[e1]at e2;simp only[Option.some.injEq,Value.slice.injEq,true_and]at e2;obtain⟨rfl,rfl⟩:=e2;exact⟨aG,by rw[aD _ (by have:=j.o;omega)];exact e1,e3⟩
   subst aE;obtain⟨m,U⟩:=EX c.length;have d:Hid (m=c.length∧m<=16∧c.Nodup∧(∀x∈c,0<=x∧x<(i:Int))∧l[i]?=some c∧i<L):=i7 ⟨U,by omega,ab.2.1,ab.2.2,I,K⟩;have CE:Hid (∀W,TF w W->D<W.heap.size∧W.cell? ⟨D,off+i,none⟩=some (.slice a m s)∧p7 W Q a s c):=i7 (by rw[U];exact am);obtain⟨f,ai⟩:=EX (c.map fun p=>(E5 l i).getD p.toNat 0);have r:Hid (f=(c.map fun p=>(E5 l i).getD p.toNat 0)∧f.length=m):=i7 ⟨ai,by rw[ai,U];simp⟩;have e3:decide ((i:Int)<(L:Int))=true:=LX (by omega);have e4:decide (i<L)=true:=LX K;obtain⟨k1,k2,-⟩:=CE.o wr TT.o;have B1:Hid (Dq wr c f m (.slice none 0 0) (.int .i64 0) wr):=⟨0,fun _=>False,by omega,rfl,by simpa[ic]using Sl.nil wr (fun _=>False) 3 1,fun _ z=>z.elim,TQ⟩;generalize aF:gk=Gk at *;clear aF am ab I U ai;generalize aI:wr=V at *;clear aI;go_wp2;go_loopg[8,9] m (fun g lv kv wr=>Dq V c f g lv kv wr)
   case atStart=>exact B1.o
   case round=>
    obtain⟨k,R,ao,rfl,ae,ak,q⟩:=hrel;obtain⟨ba,bc,rfl,-,-⟩:=ae.value;have TU:Hid (TF V wr):=q;have O:Hid (Sl wr R 3 1 (.slice ba k bc) (ic (f.take k)) k∧(∀b,R b->V.heap.size<=b)):=⟨ae,ak⟩;have G2:Hid (k+gk=c.length):=ao;have TV:Hid (TF w wr):=i7 (TT.o.tr q);have AW:Hid (Sl wr G 3 1 (.slice aa i ac) (ic (E5 l i)) i):=i7 (F.o.1.turned q fun _ _ z=>z);obtain⟨k1,k2,k3⟩:=CE.o wr TV.o;clear ao ae ak q B1;by_cases J:k<m
    ·obtain⟨x,hx⟩:∃x,c[k]?=some x:=⟨_,LB (by rw[<-d.o.1];exact J)⟩;obtain⟨g2,aS,rfl,-,aP,c0⟩:=B8 k3 k x hx;have hr:=d.o.2.2.2.1 x (LI hx);obtain⟨y,rfl⟩:∃y:Nat,x=(y:Int):=⟨x.toNat,by omega⟩;have hy:y<i:=by omega
     have e5:decide ((k:Int)<(m:Int))=true:=LX (by omega);have e6:decide (k<m)=true:=LX J;have e7:decide ((y:Int)<0)=false:=LD (by omega);have e8:decide ((i:Int)<=(y:Int))=false:=LD (by omega);have e9:decide (i<=y)=false:=LD (by omega);obtain⟨g3,aJ,aN,ax,-,-,-,al,-,aQ⟩:=AW.o.opens (by omega);simp only[Value.slice.injEq]at ax;obtain⟨rfl,-,rfl⟩:=ax;obtain⟨z,hz⟩:∃z,(E5 l i)[y]?=some z:=⟨_,LB (by rw[dd];exact hy)⟩;have c3:wr.cell? ⟨g3,aJ+y,none⟩=some (.int .i64 z):=by rw[al _ (by omega)];simp[ic,hz]
     have P:Hid (f.take (k+1)=f.take k++[z]∧k<m):=i7 ⟨by
      rw[List.take_add_one];have:f[k]?=some z:=by rw[r.o.1,List.getElem?_map,hx];simp[hz]
      rw[this];rfl,J⟩
     have M:Hid (k+1<=maxLen∧(k+1)*8<=140737488355328):=i7 ⟨by have:=d.o;simp only[maxLen];omega,by have:=d.o;omega⟩;have HW:Hid (wrap64 ((k:Int)+1)=((k+1:Nat):Int)):=i7 (by have:=d.o;have:=P.o;simp[wrap64];omega);have aC:Hid (Src prog 1 41 (.slice (some ⟨wr.heap.size,0,none⟩) 1 1) 1 [.int .i64 z] (wr.alloc (.cells #[.int .i64 z] 3))):=i7 (G5 3 underlying41 [.int .i64 z] (by simp[Value.oneCell']) wr);clear hx hr al hz k3;go_wp2_with(at_builtin;refine m7 rfl _ _ 41 41 rfl (O.o.1.turned (d7.alloc (fun _=>False) wr (.cells #[.int .i64 z] 3)) fun _ _ z=>z) underlying41 info3k rfl (by decide) rfl (.slice (some ⟨wr.heap.size,0,none⟩) 1 1) rfl aC.o M.o.1 M.o.2 ?_;intro v5 w5 ag ar;obtain⟨a5,c5,rfl,-,-⟩:=ag.value;have Y:=i7 (And.intro ag ar);clear ag ar);go_roundg (gk-1)
     case measure=>have:=G2.o;have:=d.o;have:=P.o;omega
     case rel=>
      have t:TF V w5:=TU.o.comp ((d7.alloc R wr (.cells #[.int .i64 z] 3)).tr Y.o.2) fun i T z=>by have:=O.o.2 i (z.elim False.elim id);omega
      refine⟨k+1,fun b=>R b∨(wr.alloc (.cells #[.int .i64 z] 3)).heap.size<=b,by have:=G2.o;have:=d.o;have:=P.o;omega,by rw[HW.o],?_,fun b u=>?_,t⟩
      ·rw[P.o.1];have e:ic (f.take k++[z])=ic (f.take k)++[.int .i64 z]:=by simp[ic]
       rw[e];exact Y.o.1
      ·have:=TU.o.size;have:=(d7.alloc (fun _=>False) wr (.cells #[.int .i64 z] 3)).size;exact u.elim (O.o.2 b) fun z=>by omega
    ·have e5:decide ((k:Int)<(m:Int))=false:=LD (by omega);have e6:decide (k<m)=false:=LD J;have C:Hid (f.take k=f∧k=m):=i7 ⟨LQ (by have:=r.o;omega),by have:=G2.o;have:=d.o;omega⟩;have aA:Hid (CZ 282 #[.slice a m s,.int .i64 (i:Nat)] wr (RT (.bool false) wr)):=i7 (by have:=yn (n:=i) k3 (by have:=d.o;omega) (by have:=d.o;have:=j.o;omega) d.o.2.2.2.1 d.o.2.2.1;rw[<-d.o.1]at this;exact this)
     have ay:Hid (∀W,TF wr W->CZ 283 #[.slice ba k bc] W fun e w'=>e=.returned (.int .i64 (X0 f))∧W=w'):=i7 fun W t=>by
      have hs:=O.o.1.turned t fun _ _ z=>z
      rw[C.o.1]at hs
      obtain⟨a2,aM,A,T⟩:=gU (l:=f) (by rw[r.o.2,<-C.o.2];exact hs) (fun x hx=>BH (by
       rw[r.o.1]at hx;obtain⟨p,hp,rfl⟩:=List.mem_map.1 hx;have hr:=d.o.2.2.2.1 p hp;have:p.toNat<(E5 l i).length:=by rw[dd];omega
       rw[List.getD_eq_getElem?_getD,List.getElem?_eq_getElem this];exact sH l i _ (List.getElem_mem this)))
      rw[r.o.2,<-C.o.2]at A;simp only[Value.slice.injEq,true_and]at A;obtain⟨rfl,rfl⟩:=A;have:=ym T (by have:=r.o;have:=d.o;omega);rw[r.o.2,<-C.o.2]at this;exact this
     have aB:Hid (E5 l (i+1)=E5 l i++[X0 f]):=i7 (by
      have:l.getD i []=c:=by rw[List.getD_eq_getElem?_getD,d.o.2.2.2.2.1];rfl
      rw[E5,this,r.o.1])
     have M:Hid (i+1<=maxLen∧(i+1)*8<=140737488355328):=i7 ⟨by have:=d.o;have:=j.o;simp only[maxLen];omega,by have:=d.o;have:=j.o;omega⟩;have HW:Hid (wrap64 ((i:Int)+1)=((i+1:Nat):Int)):=i7 (by have:=d.o;have:=j.o;simp[wrap64];omega);generalize X0 f=B at *;clear k3 J
     go_wp2_with(first
      |(go_fit aA.o;rintro e E⟨rfl,N⟩;replace N:=i7 N)
      |(go_fit(ay.o _ N.o);rintro e w7⟨rfl,rfl⟩)
      |(at_builtin;refine m7 rfl _ _ 41 41 rfl ((AW.o.turned N.o fun _ _ z=>z).turned (d7.alloc (fun _=>False) E (.cells #[.int .i64 B] 3)) fun _ _ z=>z) underlying41 info3k rfl (by decide) rfl (.slice (some ⟨E.heap.size,0,none⟩) 1 1) rfl (G5 3 underlying41 [.int .i64 B] (by simp[Value.oneCell']) E) M.o.1 M.o.2 ?_;intro v8 w8 ah au;obtain⟨a8,c8,rfl,-,-⟩:=ah.value;have Y:=i7 (And.intro ah au);clear ah au))
     go_roundg (Gk-1)
     case measure=>have:=X.o;have:=d.o;have:=j.o;omega
     case rel=>
      have t0:=TV.o.tr N.o;have t:TF w w8:=t0.comp ((d7.alloc G E (.cells #[.int .i64 B] 3)).tr Y.o.2) fun i T z=>by have:=F.o.2 i (z.elim False.elim id);omega
      refine⟨i+1,fun b=>G b∨(E.alloc (.cells #[.int .i64 B] 3)).heap.size<=b,by have:=X.o;have:=d.o;have:=j.o;omega,by rw[HW.o],?_,fun b u=>?_,t⟩
      ·rw[aB.o];have e:ic (E5 l i++[B])=ic (E5 l i)++[.int .i64 B]:=by simp[ic]
       rw[e];exact Y.o.1
      ·have:=t0.size;have:=(d7.alloc (fun _=>False) E (.cells #[.int .i64 B] 3)).size;exact u.elim (F.o.2 b) fun z=>by omega
  ·have e3:decide ((i:Int)<(L:Int))=false:=LD (by omega);have e4:decide (i<L)=false:=LD K;have C:Hid (i=l.length):=i7 (by have:=X.o;have:=j.o;omega);obtain⟨v9,aH,ap⟩:=F.o.1.run_from underlying41 info3k 0 .i64 0 rfl (Nat.zero_le _);have az:=i7 ap;have aK:=i7 aH;clear K ap;go_wp2;rw[HZ.o];have S:=az.o;simp only[Nat.zero_mul,List.drop_zero,Nat.sub_zero]at S;rw[C.o]at S;obtain⟨a9,c9,rfl,-,-⟩:=S.value;exact⟨a9,c9,rfl,S.widen fun b u=>F.o.2 b u,TT.o⟩
end Go.Proofs.YtofcogekgcgjhaaGreatDoor
