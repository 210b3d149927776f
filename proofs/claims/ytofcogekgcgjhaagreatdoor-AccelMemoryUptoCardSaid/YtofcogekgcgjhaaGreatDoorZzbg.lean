/- Packed. -/
import Derived.Test.YtofcogekgcgjhaaGreatDoorZzbe
import Derived.Test.YtofcogekgcgjhaaGreatDoorZzbf
set_option maxRecDepth 100000
set_option maxHeartbeats 8000000
namespace Go.Proofs.YtofcogekgcgjhaaGreatDoor
open Go.RowKit Go.Mine Go.Mine.Ac Go.Proofs.Tryz
structure jH (w:World) (rl:Nat->Nat) (p:Nat) (dv lv gv:Value) (x:Ix):Prop where
 r1:rl p=1
 blk:X8 w p #[dv,lv,gv] 178
 links:Sl w (fun b=>rl b=2) 120 3 lv (Ch.lcells x.links) x.links.length
 graphs:L7 w rl gv x.graphs
 bnd:∀b,rl b≠0->b<w.heap.size
theorem jH.turned{w w':World}{U:Nat->Prop}{d:Nat->Nat}{p:Nat}{e i f:Value}{x:Ix}(h:jH w d p e i f x)(a:d7 U w w')(c:∀b,d b≠0->¬U b):jH w' d p e i f x:=⟨h.r1,(a.block _ (i6 h.blk) (c _ (by rw[h.r1];decide))).trans h.blk,h.links.turned a fun b g=>c b (by omega),h.graphs.turned a c,fun b g=>LC (h.bnd b g) a.size⟩
theorem gF{w:World}{g:Nat->Nat}{p:Nat}{c f d:Value}{x:Ix}(h:jH w g p c f d x)(b:G0 x):CZ 106 #[pt p] w (RT (.int .i64 x.len) w):=by obtain⟨a,cap,rfl,e⟩:=Ch.cU h.links (jx.of b);exact Ch.zz h.blk e (fun j=>by have:=Q9 b j;exact⟨by omega,by omega⟩) (by have:=b.many;omega)
def findI:List Gr->Int->Nat->Option (Nat×Nat)
 | [],_,_=>none
 |g::l,n,i=>if n<0 then none else if n<g.rows.length then some (i,n.toNat)else findI l (n-g.rows.length) (i+1)
theorem findI_at:∀{l:List Gr}{n:Int}{i a k:Nat},findI l n i=some (a,k)->∃(j:Nat)(g:Gr)(r:Rw),a=i+j∧l[j]?=some g∧g.rows[k]?=some r∧0<=n∧n=(((l.take j).map fun g=>(g.rows.length:Int)).sum)+(k:Nat)
 | [],n,i,a,k,h=>by simp[findI]at h
 |g::l,n,i,a,k,h=>by
  rw[findI]at h;split at h
  ·simp at h
  ·rename_i d;split at h
   ·rename_i h1;simp only[Option.some.injEq,Prod.mk.injEq]at h;obtain⟨rfl,rfl⟩:=h;have c:n.toNat<g.rows.length:=by omega
    exact⟨0,g,g.rows[n.toNat],rfl,rfl,LB c,by omega,by simp;omega⟩
   ·obtain⟨j,b,r,rfl,h2,h3,h4,e⟩:=findI_at h;exact⟨j+1,b,r,by omega,by simpa using h2,h3,by omega,by simp only[List.take_succ_cons,List.map_cons,List.sum_cons];omega⟩
theorem findI_none:∀{l:List Gr}{n:Int}{i:Nat},findI l n i=none->n<0∨((l.map fun g=>(g.rows.length:Int)).sum)<=n
 | [],n,i,h=>by simp;omega
 |g::l,n,i,h=>by
  rw[findI]at h;split at h
  ·rename_i a;exact .inl a
  ·rename_i a;split at h
   ·simp at h
   ·have:=findI_none h;simp only[List.map_cons,List.sum_cons];omega
theorem my{x:Ix}(h:G0 x):∀j,j<=x.graphs.length->((x.graphs.take j).map fun g=>(g.rows.length:Int)).sum=Ch.totLn (x.links.take j)
 |0,_=>by simp[Ch.totLn]
 |j+1,hj=>by obtain⟨g,a⟩:∃g,x.graphs[j]?=some g:=⟨_,LB (by omega)⟩;have h1:=my h j (by omega);obtain⟨h2,h3⟩:=R5 h a;rw[List.take_add_one,a];simp only[Option.toList_some,List.map_append,List.map_cons,List.map_nil,List.sum_append,List.sum_cons,List.sum_nil];omega
theorem wK{x:Ix}(h:G0 x){n:Int}{a k:Nat}(d:findI x.graphs n 0=some (a,k)):∃g r,x.graphs[a]?=some g∧g.rows[k]?=some r∧E9 x n=some (g,r):=by
 obtain⟨j,g,r,e,h1,h2,h3,h4⟩:=findI_at d;obtain rfl:a=j:=by omega
 have f:=(LA.1 h1).1;rw[my h a (by omega)]at h4;obtain⟨b1,b2⟩:=R5 h h1;have i:=(LA.1 h2).1;obtain⟨l,b,c⟩:=gn h h1 (n:=n) (by omega) (by omega);have:(n-g.base).toNat=k:=by omega
 rw[this,h2]at b;obtain rfl:=Option.some.inj b;exact⟨g,r,h1,h2,c⟩
theorem sJ{x:Ix}(h:G0 x){n:Int}(a:findI x.graphs n 0=none):E9 x n=none:=by refine mo h ?_;rw[eF h,<-my h _ (Nat.le_refl _),List.take_length];exact findI_none a
def fiv:Option (Nat×Nat)->Value
 |none=>.tuple #[.int .i64 0,.int .i64 0,.bool false]
 |some (a,k)=>.tuple #[.int .i64 a,.int .i64 k,.bool true]
def Am(w:World)(x:Ix)(n:Int)(g:Nat)(nv a:Value)(wr:World):Prop:=∃(i:Nat)(m:Int),i+g=x.graphs.length∧a=.int .i64 i∧nv=.int .i64 m∧m<=9223372036854775807∧findI x.graphs n 0=findI (x.graphs.drop i) m i∧wr=w
theorem mz{w:World}{O:Nat->Nat}{p:Nat}{U lv Z:Value}{x:Ix}(h:jH w O p U lv Z x)(r:G0 x)(n:Int)(M:n<=9223372036854775807):
  CZ 194 #[pt p,.int .i64 n] w fun e w'=>e=.returned (fiv (findI x.graphs n 0))∧w'=w:=by
 obtain⟨u,v⟩:∃u:Ending->World->Prop,u=fun e w'=>e=.returned (fiv (findI x.graphs n 0))∧w'=w:=⟨_,rfl⟩
 have t:Hid (u=fun e w'=>e=.returned (fiv (findI x.graphs n 0))∧w'=w):=v;rw[<-v];obtain⟨ga,gc,rfl⟩:=h.graphs.len;obtain⟨L,q⟩:=EX x.graphs.length;have l:Hid (L=x.graphs.length∧L<=8):=i7 ⟨q,by rw[q,r.both];exact r.many⟩;have c2:w.cell? ⟨p,2,none⟩=some (.slice ga L gc):=by rw[q];exact g9 h.blk 2 _ rfl
 have ab:=i6 h.blk;have P:Hid (L7 w O (.slice ga L gc) x.graphs):=i7 (by rw[q];exact h.graphs);have Q:Hid (∀g∈x.graphs,g.rows.length<=65536):=i7 fun g d=>by obtain⟨i,k⟩:=LM d;obtain⟨h1,h2,h3⟩:=(r.graph i g k).1.1;omega
 have y:Hid (Am w x n L (.int .i64 n) (.int .i64 0) w):=⟨0,n,by omega,rfl,rfl,M,rfl,rfl⟩;clear h r M q v;go_enter func194,ntmps194;go_wp2;go_loopg[1,7] L (fun g nv iv wr=>Am w x n g nv iv wr)
 case atStart=>exact y.o
 case round=>
  clear y;obtain⟨i,m,H,rfl,rfl,J,F,rfl⟩:=hrel;have a:Hid (i+gk=x.graphs.length∧findI x.graphs n 0=findI (x.graphs.drop i) m i∧m<=9223372036854775807):=⟨H,F,J⟩;clear H F J;by_cases k:i<L
  ·have V:decide ((i:Int)<(L:Int))=true:=LX (by omega);have W:decide (i<L)=true:=LX k;obtain⟨g,d⟩:∃g,x.graphs[i]?=some g:=⟨_,LB (by rw[<-l.o.1];exact k)⟩;have s:Hid (x.graphs.drop i=g::x.graphs.drop (i+1)):=i7 (by obtain⟨h1,h2⟩:=LA.1 d;rw[List.drop_eq_getElem_cons h1,h2]);by_cases j:m<0
   ·have X:decide (0<=m)=false:=LD (by omega);have c:Hid (findI x.graphs n 0=none):=i7 (by rw[a.o.2.1,s.o,findI,if_pos j]);clear j d;go_wp2;go_ret3;rw[t.o];exact⟨by rw[c.o];rfl,rfl⟩
   ·have X:decide (0<=m)=true:=LX (by omega);obtain⟨b,off,cap,ra,rc,G,aa,E,z,A,B,C,D,T,gok,N⟩:=P.o.at d;simp only[Value.slice.injEq]at G;obtain⟨rfl,-,-⟩:=G;have I:=Q.o g (LI d);obtain⟨K,f⟩:=EX g.rows.length;rw[<-f]at T;have R:Hid (K=g.rows.length∧K<=65536∧0<=m):=i7 ⟨f,by omega,by omega⟩;by_cases h1:m<(K:Int)
    ·have Y:decide (m<(K:Int))=true:=LX h1;have c:Hid (findI x.graphs n 0=some (i,m.toNat)∧((m.toNat:Nat):Int)=m):=i7 ⟨by rw[a.o.2.1,s.o,findI,if_neg j,if_pos (by rw[<-f];exact h1)],by omega⟩;clear j d I f h1 N gok E z A B C D;go_wp2;go_ret3;rw[t.o];exact⟨by rw[c.o.1,fiv,c.o.2];rfl,rfl⟩
    ·have Y:decide (m<(K:Int))=false:=LD h1;have c:Hid (findI x.graphs n 0=findI (x.graphs.drop (i+1)) (m-(K:Int)) (i+1)):=i7 (by rw[a.o.2.1,s.o,findI,if_neg j,if_neg (by rw[<-f];exact h1),<-f]);have S:Hid (wrap64 (m-(K:Int))=m-(K:Int)):=i7 (by have:=a.o.2.2;simp only[wrap64];omega);clear j d I f h1 N gok E z A B C D;go_wp2;go_roundg (gk-1)
     case measure=>have:=a.o.1;have:=l.o;omega
     case rel=>exact⟨i+1,m-(K:Int),by have:=a.o.1;have:=l.o;omega,by have:=l.o;simp[wrap64];omega,by rw[S.o],by have:=a.o.2.2;have:=R.o;omega,c.o,rfl⟩
  ·have V:decide ((i:Int)<(L:Int))=false:=LD (by omega);have W:decide (i<L)=false:=LD k;have c:Hid (findI x.graphs n 0=none):=i7 (by rw[a.o.2.1,List.drop_eq_nil_of_le (by have:=l.o;omega)];rfl);clear k;go_wp2;go_ret3;rw[t.o];exact⟨by rw[c.o];rfl,rfl⟩
def vm(w:World)(c:Nat->Nat):Option (Gr×Rw)->Ending->World->Prop
 |none,e,w'=>e=.returned (.tuple #[zeroRow,.bool false])∧TF w w'
 |some (_,r),e,w'=>∃a cap,e=.returned (.tuple #[dD a cap r,.bool true])∧p7 w' (fun b=>c b=4) a cap r.par∧TF w w'
theorem yp{w:World}{f:Nat->Nat}{p:Nat}{N Y S:Value}{x:Ix}(h:jH w f p N Y S x)(q:G0 x)(n:Int)(G:n<=9223372036854775807):
  CZ 108 #[pt p,.int .i64 n] w (vm w f (E9 x n)):=by
 obtain⟨Z,y⟩:=EX (vm w f (E9 x n));have J:Hid (Z=vm w f (E9 x n)):=y;rw[<-y];obtain⟨d,u⟩:=EX (w.alloc (.cells #[.slice none 0 0,.int .i64 0,.int .i64 0,.int .i64 0,.string ⟨#[]⟩] 48));have I:Hid (d=w.alloc (.cells #[.slice none 0 0,.int .i64 0,.int .i64 0,.int .i64 0,.string ⟨#[]⟩] 48)):=u;obtain⟨i,c⟩:=A0 (w:=w) (.cells #[.slice none 0 0,.int .i64 0,.int .i64 0,.int .i64 0,.string ⟨#[]⟩] 48);rw[<-u]at i c;have TV:Hid (TF w d):=i;have hF:=mz (h.turned i fun _ _ z=>z) q n G;have D:Hid (jH d f p N Y S x):=i7 (h.turned i fun _ _ z=>z);have HB:Hid (∀b,f b≠0->b<w.heap.size):=h.bnd;obtain⟨ga,gc,rfl⟩:=h.graphs.len;have x0:d.cell? ⟨w.heap.size,0,none⟩=some (.slice none 0 0):=g9 c 0 _ rfl;have x1:d.cell? ⟨w.heap.size,1,none⟩=some (.int .i64 0):=g9 c 1 _ rfl;have x2:d.cell? ⟨w.heap.size,2,none⟩=some (.int .i64 0):=g9 c 2 _ rfl;have x3:d.cell? ⟨w.heap.size,3,none⟩=some (.int .i64 0):=g9 c 3 _ rfl;have x4:d.cell? ⟨w.heap.size,4,none⟩=some (.string ⟨#[]⟩):=g9 c 4 _ rfl;have O:=j7 c 0;have f1:=j7 c 1;have P:=j7 c 2;have Q:=j7 c 3;have R:=j7 c 4;have lx:=i6 c;have M:Hid (∀v0 v1 v2 v3 v4,∃m,m=((((d.setCell ⟨w.heap.size,0,none⟩ v0).setCell ⟨w.heap.size,1,none⟩ v1).setCell ⟨w.heap.size,2,none⟩ v2).setCell ⟨w.heap.size,3,none⟩ v3).setCell ⟨w.heap.size,4,none⟩ v4∧TF w m∧∀a cap l,p7 d (fun b=>f b=4) a cap l->p7 m (fun b=>f b=4) a cap l):=i7 fun v0 v1 v2 v3 v4=>by have s:=LS w.heap.size;refine⟨_,rfl,((((i.fresh s _).fresh s _).fresh s _).fresh s _).fresh s _,fun a cap l F=>F.turned (T:=fun b=>b=w.heap.size) ?_ fun b hb z=>by have:=h.bnd b (by omega);omega⟩;exact(((((d7.refl (fun b=>b=w.heap.size) d).set (p:=⟨w.heap.size,0,none⟩) rfl _).set (p:=⟨w.heap.size,1,none⟩) rfl _).set (p:=⟨w.heap.size,2,none⟩) rfl _).set (p:=⟨w.heap.size,3,none⟩) rfl _).set (p:=⟨w.heap.size,4,none⟩) rfl _
 cases j:findI x.graphs n 0 with
 |none=>rw[j]at hF;unfold fiv at hF;have C:Hid (E9 x n=none):=i7 (sJ q j);replace hF:=i7 hF;clear y h q G u i c j;go_enter func108,ntmps108;go_wp2_with fail;rw[<-I.o];go_wp2_with(go_fit hF.o;rintro e w1⟨rfl,rfl⟩);refine bodyPost_ret (v:=.tuple #[zeroRow,.bool false]) (by simp[results,Tryz.results108,go_sem,x0,x1,x2,x3,x4,O,f1,P,Q,R,lx]) rfl ?_;obtain⟨m,e,t,-⟩:=M.o (.slice none 0 0) (.int .i64 0) (.int .i64 0) (.int .i64 0) (.string ⟨#[]⟩);rw[J.o,C.o,<-e];exact⟨rfl,t⟩
 |some ak=>
  obtain⟨a,k⟩:=ak;rw[j]at hF;unfold fiv at hF;obtain⟨g,r,E,H,U⟩:=wK q j;have C:Hid (E9 x n=some (g,r)):=U;replace hF:=i7 hF;obtain⟨b,off,cap,ra,rc,V,ac,aa,c0,c1,c2,c3,c4,c5,gok,X⟩:=D.o.graphs.at E;simp only[Value.slice.injEq]at V;obtain⟨rfl,-,-⟩:=V;obtain⟨rb,ro,rfl,ab,ae,A,B,W,r1,r2,r3,r4,r5⟩:=dM X k r H;have p2:=g9 D.o.blk 2 _ rfl;have pl:=i6 D.o.blk;have ha:=(LA.1 E).1;have hk:=(LA.1 H).1;have HI:Hid (p7 d (fun b=>f b=4) A B r.par):=W;have ad:¬rb=w.heap.size:=by have:=HB.o rb (by omega);omega
  generalize g.rows.length=K at *;generalize x.graphs.length=L at *;clear y h q G u i c j U E H c0 c1 c2 c3 c4 gok X aa ab W;go_enter func108,ntmps108;go_wp2_with fail;rw[<-I.o];go_wp2_with(go_fit hF.o;rintro e w1⟨rfl,rfl⟩);refine bodyPost_ret (v:=.tuple #[dD A B r,.bool true]) (by simp[results,Tryz.results108,go_sem,x0,x1,x2,x3,x4,O,f1,P,Q,R,lx]) rfl ?_;obtain⟨m,e,t,F⟩:=M.o (.slice A r.par.length B) (.int .i64 r.tree) (.int .i64 r.gen) (.int .i64 r.state) (.string r.bits);rw[J.o,C.o,<-e];exact⟨A,B,rfl,F _ _ _ HI.o,t⟩
theorem yq{w:World}{rl:Nat->Nat}{p:Nat}{R X S:Value}{x:Ix}(h:jH w rl p R X S x)(d:G0 x)(n:Int)(v:n<=9223372036854775807)(path:ByteArray)(y:path.size<=1000000000):
  CZ 109 #[pt p,.int .i64 n,.string path] w (RT (.bool (gJ x n path)) w):=by
 obtain⟨s,i⟩:∃s:Ending->World->Prop,s=(RT (.bool (gJ x n path)) w):=⟨_,rfl⟩;have z:Hid (s=(RT (.bool (gJ x n path)) w)):=i;rw[<-i];have hF:=mz h d n v;cases c:findI x.graphs n 0 with
 |none=>rw[c]at hF;unfold fiv at hF;have q:Hid (gJ x n path=true):=i7 (by unfold gJ;rw[sJ d c]);replace hF:=i7 hF;clear i h d v y c;go_enter func109,ntmps109;go_wp2_with(go_fit hF.o;rintro e G⟨rfl,rfl⟩);go_quiet (fail);go_wp2;rw[z.o];exact⟨by rw[q.o];rfl,TQ.drawN _⟩
 |some I=>
  obtain⟨a,k⟩:=I;rw[c]at hF;unfold fiv at hF;obtain⟨g,r,j,l,C⟩:=wK d c;have q:Hid (gJ x n path=U6 (W6 g) (fu r) path):=i7 (by unfold gJ;rw[C]);replace hF:=i7 hF;obtain⟨ga,gc,rfl⟩:=h.graphs.len;obtain⟨b,off,cap,ra,rc,D,aa,T,J,M,N,O,P,Q,gok,E⟩:=h.graphs.at j;simp only[Value.slice.injEq]at D;obtain⟨rfl,-,-⟩:=D;obtain⟨rb,f,rfl,V,ab,pa,ac,U,r1,r2,r3,r4,r5⟩:=dM E k r l;have Y:=g9 h.blk 2 _ rfl;have pl:=i6 h.blk;have ha:=(LA.1 j).1;have hk:=(LA.1 l).1;have u:=d.graph a g j;have B:r.bits.size<=4096:=dy (u.1.2.2 k r l).2.2.2.2.2.2;have H:Hid (∀W,CZ 195 #[.agg #[.int .i64 g.h,.int .i64 g.p,.int .i64 g.m,.int .u32 g.seed],.agg #[.int .i64 r.state,.string r.bits],.string path] W (RT (.bool (U6 (W6 g) (fu r) path)) W)):=i7 fun W=>Al (W6 g) (fu r) path W gok.2.2.2.2 y u.1.2.1 B
  have A:Hid (∀W,TF w W->W.cell? ⟨p,2,none⟩=some (.slice (some ⟨b,off,none⟩) x.graphs.length gc)∧W.cell? ⟨b,off+a*6+1,none⟩=some (.int .i64 g.h)∧W.cell? ⟨b,off+a*6+2,none⟩=some (.int .i64 g.p)∧W.cell? ⟨b,off+a*6+3,none⟩=some (.int .i64 g.m)∧W.cell? ⟨b,off+a*6+4,none⟩=some (.int .u32 g.seed)∧W.cell? ⟨b,off+a*6+5,none⟩=some (.slice (some ⟨rb,f,none⟩) g.rows.length rc)∧W.cell? ⟨rb,f+k*5+3,none⟩=some (.int .i64 r.state)∧W.cell? ⟨rb,f+k*5+4,none⟩=some (.string r.bits)):=i7 fun W t=>⟨m6 Y t id,m6 M t id,m6 N t id,m6 O t id,m6 P t id,m6 Q t id,m6 r4 t id,m6 r5 t id⟩
  generalize g.rows.length=K at *;generalize x.graphs.length=L at *;generalize U6 (W6 g) (fu r) path=bb at *;clear i h d v y c C j l J gok E T V U u B r1 r2 r3;go_enter func109,ntmps109;go_wp2_with(go_fit hF.o;rintro e G⟨rfl,rfl⟩)
  go_region_held3 (fun W=>W.cell? ⟨p,2,none⟩=some (.slice (some ⟨b,off,none⟩) L gc)∧W.cell? ⟨b,off+a*6+1,none⟩=some (.int .i64 g.h)∧W.cell? ⟨b,off+a*6+2,none⟩=some (.int .i64 g.p)∧W.cell? ⟨b,off+a*6+3,none⟩=some (.int .i64 g.m)∧W.cell? ⟨b,off+a*6+4,none⟩=some (.int .u32 g.seed)∧W.cell? ⟨b,off+a*6+5,none⟩=some (.slice (some ⟨rb,f,none⟩) K rc)∧W.cell? ⟨rb,f+k*5+3,none⟩=some (.int .i64 r.state)∧W.cell? ⟨rb,f+k*5+4,none⟩=some (.string r.bits))
   (first|(exact A.o _ TD)|(exact A.o _ F)|go_keep)
   (first|(go_fit(H.o _);rintro e w2⟨rfl,Z⟩;have F:=(d7.drew (fun _=>False) G).tr Z))
  go_wp2;rw[z.o];exact⟨by rw[q.o];rfl,F⟩
theorem yr{w:World}{k:Nat->Nat}{p:Nat}{f j i:Value}{x:Ix}(h:ed w k p f j i x)(a:G0 x)(n:Int)(path:ByteArray)(b:E9 x n=none):
  CZ 17 #[pt p,.int .i64 n,.string path] w (RT (.bool true) w):=by
 have c:n<0∨x.len<=n:=by apply LK;intro q;obtain⟨g,r,e⟩:=mp a (n:=n) (by omega) (by omega);rw[b]at e;simp at e
 have d:=mt h a n c;clear h a b c;go_enter func17,ntmps17;go_wp2_with(go_fit d;rintro e w'⟨rfl,q⟩;replace q:=i7 q);go_ret;exact⟨rfl,(q.o.new _).new _⟩
theorem nY{w:World}{A:Nat->Nat}{p:Nat}{u z v:Value}{x:Ix}(h:ed w A p u z v x)(b:G0 x)(n:Int)(path:ByteArray)(m:path.size<=1000000000){g:Gr}{r:Rw}(c:E9 x n=some (g,r)):
  CZ 17 #[pt p,.int .i64 n,.string path] w (RT (.bool (U6 (W6 g) (fu r) path)) w):=by
 obtain⟨-,-,i,k,d,l,-⟩:=fd b c;have s:g.seed<4294967296:=by obtain⟨_,_,_,_,_,_,_,_,_,_,_,_,_,_,gok,_⟩:=h.graphs.at d;exact gok.2.2.2.2
 have y:r.bits.size<=4096:=dy ((b.graph i g d).1.2.2 k r l).2.2.2.2.2.2;have j:=mv h b n c;unfold mu at j;have t:Hid (∀W,CZ 60 #[J3 (W6 g),.agg #[.int .i64 r.state,.string r.bits],.string path] W (RT (.bool (U6 (W6 g) (fu r) path)) W)):=fun W=>zU (W6 g) (fu r) path W s m (by unfold fu;simp only;omega)
 generalize U6 (W6 g) (fu r) path=B at *;clear h b c d l s y m;go_enter func17,ntmps17;go_wp2_with(first|(go_fit j;rintro e C⟨a,cap,rfl,-,q⟩;replace q:=i7 q)|(go_fit(t.o _);rintro e w2⟨rfl,f⟩;replace f:=i7 f));go_ret;exact⟨rfl,((q.o.new _).new _).tr f.o⟩
def vo(w:World)(e:Ending)(w':World):Prop:=∃a cap,e=.returned (.tuple #[.agg #[.slice a 0 cap,.int .i64 0,.int .i64 0,.int .i64 0,.string ⟨#[]⟩],.bool false])∧TF w w'
theorem yt{w:World}{rl:Nat->Nat}{p:Nat}{Y lv gv:Value}{x:Ix}(h:ed w rl p Y lv gv x)(C:G0 x)(n:Int)(K:E9 x n=none):
  CZ 20 #[pt p,.int .i64 n] w (vo w):=by
 obtain⟨X,B⟩:=EX (vo w);have T:Hid (X=vo w):=B;rw[<-B];have L:n<0∨x.len<=n:=by apply LK;intro q;obtain⟨g,r,e⟩:=mp C (n:=n) (by omega) (by omega);rw[K]at e;simp at e
 obtain⟨d,s⟩:=EX (w.alloc (.cells #[.slice none 0 0,.int .i64 0,.int .i64 0,.int .i64 0,.string ⟨#[]⟩] 48));have R:Hid (d=w.alloc (.cells #[.slice none 0 0,.int .i64 0,.int .i64 0,.int .i64 0,.string ⟨#[]⟩] 48)):=s;have E:TF w d:=by rw[s];exact TA
 have G:d.heap[w.heap.size]?=some (.cells #[.slice none 0 0,.int .i64 0,.int .i64 0,.int .i64 0,.string ⟨#[]⟩] 48):=by rw[s];exact i8 _ _
 have Q:=mt (h.turned E fun _ _ z=>z) C n L;have V:Hid (TF w d):=E;have H:Hid (w.heap.size<d.heap.size):=i6 G;have S:Hid (∀W,TF d W->W.heap[w.heap.size]?=some (.cells #[.slice none 0 0,.int .i64 0,.int .i64 0,.int .i64 0,.string ⟨#[]⟩] 48)):=fun W t=>j9 G t id
 have P:Hid (∀W,TF d W->CZ 65 #[.slice none 0 0] W fun e w'=>∃l m,e=.returned (.slice l 0 m)∧Sl w' (fun b=>W.heap.size<=b) 3 1 (.slice l 0 m) [] 0∧TF d w'∧TF W w'):=fun W t=>by
  refine(dj (xs:=[]) W (fun w' t'=>Src.ofNil _ underlying41 0) (fun _=>rfl) (by omega)).mono fun e w'⟨v,F,y,A⟩=>?_
  obtain⟨l,m,rfl,-,-⟩:=y.value;exact⟨l,m,F,y,t.tr A,A⟩
 clear B h C K L s E G;go_enter func20,ntmps20;go_wp2_with fail;rw[<-R.o];go_wp2_with(first|(go_fit Q;rintro e c⟨rfl,q⟩;have k:=i7 q;clear q)|(go_fit(P.o _ ((k.o.new _).new _));rintro e2 w2⟨I,J,rfl,D,u,i⟩;obtain⟨O,M,-⟩:=p8 (w:=c) (.cells #[.slice none 0 0,.int .i64 0,.int .i64 0,.int .i64 0,.string ⟨#[]⟩] 48) (.cells #[.int .i64 0,.int .i64 0,.int .i64 0,.int .u32 0] 24);have f:=j9 M i id;have a:=S.o w2 ((k.o.tr O).tr i);have c0:w2.cell? ⟨c.heap.size,0,none⟩=some (.slice none 0 0):=g9 f 0 _ rfl;have c1:w2.cell? ⟨c.heap.size,1,none⟩=some (.int .i64 0):=g9 f 1 _ rfl;have ac:w2.cell? ⟨c.heap.size,2,none⟩=some (.int .i64 0):=g9 f 2 _ rfl;have c3:w2.cell? ⟨c.heap.size,3,none⟩=some (.int .i64 0):=g9 f 3 _ rfl;have c4:w2.cell? ⟨c.heap.size,4,none⟩=some (.string ⟨#[]⟩):=g9 f 4 _ rfl;have f0:=j7 f 0;have lb:=i6 f;have x0:w2.cell? ⟨w.heap.size,0,none⟩=some (.slice none 0 0):=g9 a 0 _ rfl;have F:w2.cell? ⟨w.heap.size,1,none⟩=some (.int .i64 0):=g9 a 1 _ rfl;have y:w2.cell? ⟨w.heap.size,2,none⟩=some (.int .i64 0):=g9 a 2 _ rfl;have A:w2.cell? ⟨w.heap.size,3,none⟩=some (.int .i64 0):=g9 a 3 _ rfl;have x4:w2.cell? ⟨w.heap.size,4,none⟩=some (.string ⟨#[]⟩):=g9 a 4 _ rfl;have Z:=j7 a 0;have g1:=j7 a 1;have g2:=j7 a 2;have g3:=j7 a 3;have g4:=j7 a 4;have lx:=i6 a;have N:¬c.heap.size=w.heap.size:=(by have:=k.o.size;have:=H.o;omega);have ab:¬w.heap.size=c.heap.size:=(fun z=>N z.symm);have U:=i7 (And.intro D (And.intro u (And.intro i (k.o.size))));clear D u i O M f a));refine bodyPost_ret (v:=.tuple #[.agg #[.slice I 0 J,.int .i64 0,.int .i64 0,.int .i64 0,.string ⟨#[]⟩],.bool false]) (by simp[results,Tryz.results20,go_sem,x0,F,y,A,x4,Z,g1,g2,g3,g4,lx,lb,N,ab]) rfl ?_;rw[T.o];obtain⟨D,u,i,ad⟩:=U.o;have j:w.heap.size<=w.heap.size:=LS _;have l1:w.heap.size<=c.heap.size:=by have:=H.o;omega
 refine⟨I,J,rfl,?_⟩;have aa:=V.o.tr u;exact(((((aa.fresh l1 _).fresh j _).fresh j _).fresh j _).fresh j _).fresh j _
theorem kC{w:World}{rl rx:Nat->Nat}{p y:Nat}{dv tv cv ev lv gv:Value}{s:St}{x:Ix}(h:F4 78 w rl p dv tv cv s)(hx:jH w rx y ev lv gv x)(M:G0 x)(L:x.len<=s.commits.length)(g:I2):
  CZ 110 #[pt y,pt p,J3 g] w (RT (.int .i64 (if n0 g then 0 else 1)) w):=by
 obtain⟨E,A⟩:∃E:Ending->World->Prop,E=(RT (.int .i64 (if n0 g then 0 else 1)) w):=⟨_,rfl⟩;have R:Hid (E=(RT (.int .i64 (if n0 g then 0 else 1)) w)):=A;rw[<-A];obtain⟨a,u⟩:=EX (w.alloc (.cells #[.int .i64 g.h,.int .i64 g.p,.int .i64 g.m,.int .u32 g.seed] 24));have Q:Hid (a=w.alloc (.cells #[.int .i64 g.h,.int .i64 g.p,.int .i64 g.m,.int .u32 g.seed] 24)):=u;obtain⟨d,l⟩:=A0 (w:=w) (.cells #[.int .i64 g.h,.int .i64 g.p,.int .i64 g.m,.int .u32 g.seed] 24);rw[<-u]at d l;have V:Hid (TF w a):=d;have t:Hid (CZ 196 #[.agg #[.int .i64 g.h,.int .i64 g.p,.int .i64 g.m,.int .u32 g.seed]] a.drew (RT (.int .i64 (if n0 g then 0 else 1)) a.drew)):=i7 (fV g a.drew);obtain⟨F,G,J,-,-⟩:=h.commits.choose_spec.1.value;obtain⟨N,H⟩:=EX s.commits.length;have k:Hid (∀W,TF a W->W.cell? ⟨w.heap.size,0,none⟩=some (.int .i64 g.h)∧W.cell? ⟨w.heap.size,1,none⟩=some (.int .i64 g.p)∧W.cell? ⟨w.heap.size,2,none⟩=some (.int .i64 g.m)∧W.cell? ⟨w.heap.size,3,none⟩=some (.int .u32 g.seed)∧W.cell? ⟨p,2,none⟩=some (.slice F N G)):=i7 fun W q=>by have C:=j9 l q id;have zq:=j9 (j9 h.blk d id) q id;refine⟨g9 C 0 _ rfl,g9 C 1 _ rfl,g9 C 2 _ rfl,g9 C 3 _ rfl,?_⟩;rw[H,<-J];exact g9 zq 2 _ rfl
 have aa:p<a.heap.size:=LC (i6 h.blk) d.size;have lb:=i6 l;have D:Hid (∀W,TF a W->CZ 106 #[pt y] W (RT (.int .i64 x.len) W)):=i7 fun W q=>gF (hx.turned (d.tr q) fun _ _ z=>z) M
 obtain⟨Z,I⟩:=EX x.len;rw[<-I]at D L;have e1:decide ((N:Int)<Z)=false:=LD (by omega);have T:=i7 (k.o a.drew TD);by_cases B:n0 g
 ·have j:Hid ((if n0 g then(0:Int)else 1)=0):=i7 (if_pos B);rw[j.o]at t;clear A u d l h hx M L H J I B;go_enter func110,ntmps110;go_wp2_with fail;rw[<-Q.o]
  go_region_held3 (fun W=>W.cell? ⟨w.heap.size,0,none⟩=some (.int .i64 g.h)∧W.cell? ⟨w.heap.size,1,none⟩=some (.int .i64 g.p)∧W.cell? ⟨w.heap.size,2,none⟩=some (.int .i64 g.m)∧W.cell? ⟨w.heap.size,3,none⟩=some (.int .u32 g.seed)∧W.cell? ⟨p,2,none⟩=some (.slice F N G))
   (first|(with_reducible exact T.o)|(with_reducible exact X.o)|(with_reducible exact Y.o)|go_keep)
   (first
    |(go_fit t.o;rintro e r⟨rfl,c⟩;have f:TF a r:=TD.tr c;have X:=i7 (k.o r f))
    |(go_fit(D.o r f);rintro e w2⟨rfl,n⟩;have U:TF a w2:=f.tr n;have Y:=i7 (k.o w2 U)))
  go_wp2;rw[R.o,j.o];exact⟨rfl,V.o.tr U⟩
 ·have j:Hid ((if n0 g then(0:Int)else 1)=1):=i7 (if_neg B);rw[j.o]at t;clear A u d l h hx M L H J I B D;go_enter func110,ntmps110;go_wp2_with fail;rw[<-Q.o];obtain⟨u0,u1,u2,u3,-⟩:=k.o a TQ;refine wp_region_held_drew (S:=fun W=>W.cell? ⟨w.heap.size,0,none⟩=some (.int .i64 g.h)∧W.cell? ⟨w.heap.size,1,none⟩=some (.int .i64 g.p)∧W.cell? ⟨w.heap.size,2,none⟩=some (.int .i64 g.m)∧W.cell? ⟨w.heap.size,3,none⟩=some (.int .u32 g.seed)∧W.cell? ⟨p,2,none⟩=some (.slice F N G)) (by kernel_rfl) T.o ?_;intro hS;refine wpAnyH_take (i:=0) (v:=.agg #[.int .i64 g.h,.int .i64 g.p,.int .i64 g.m,.int .u32 g.seed]) rfl (by kernel_rfl) (by kernel_rfl) (by kernel_rfl) (fun _ _ _ h=>h) (Or.inl ⟨by rfl,fun W q=>by(obtain⟨O,c,n,P,-⟩:=q;go_simp)⟩) hS ?_
  try simp only[Act.put,List.getElem_toArray,List.getElem_cons_zero,List.getElem_cons_succ,List.setIfInBounds_toArray,List.set_cons_zero,List.set_cons_succ]
  refine wpAnyH_ready (rs:=[1]) (by kernel_rfl) (by simp) ?_;refine AllReadyH.cons rfl (fun K hK=>?_) AllReadyH.nil;go_simp
  (with_reducible refine t.o.mono ?_)
  rintro e r⟨rfl,c⟩;have f:TF a r:=TD.tr c;refine hK.out _ _ (k.o _ f) fun b=>?_
  try simp only[Act.put,List.getElem_toArray,List.getElem_cons_zero,List.getElem_cons_succ,List.setIfInBounds_toArray,List.set_cons_zero,List.set_cons_succ]
  refine wpAnyH_take (i:=2) (v:=.bool true) rfl (by kernel_rfl) (by kernel_rfl) (by kernel_rfl) (fun _ _ _ h=>h) (Or.inl ⟨by rfl,fun W q=>by(obtain⟨O,c,n,P,-⟩:=q;go_simp)⟩) b ?_
  try simp only[Act.put,List.getElem_toArray,List.getElem_cons_zero,List.getElem_cons_succ,List.setIfInBounds_toArray,List.set_cons_zero,List.set_cons_succ]
  refine wpAnyH_take (i:=3) (v:=.bool true) rfl (by kernel_rfl) (by kernel_rfl) (by kernel_rfl) (fun _ _ _ h=>h) (Or.inl ⟨by rfl,fun W q=>by(obtain⟨O,c,n,P,-⟩:=q;go_simp)⟩) b ?_
  try simp only[Act.put,List.getElem_toArray,List.getElem_cons_zero,List.getElem_cons_succ,List.setIfInBounds_toArray,List.set_cons_zero,List.set_cons_succ]
  refine wpAnyH_take (i:=4) (v:=undef) rfl (by kernel_rfl) (by kernel_rfl) (by kernel_rfl) (fun _ _ _ h=>h) (Or.inr ⟨by rfl,rfl⟩) b ?_
  try simp only[Act.put,List.getElem_toArray,List.getElem_cons_zero,List.getElem_cons_succ,List.setIfInBounds_toArray,List.set_cons_zero,List.set_cons_succ]
  refine wpAnyH_take (i:=5) (v:=undef) rfl (by kernel_rfl) (by kernel_rfl) (by kernel_rfl) (fun _ _ _ h=>h) (Or.inr ⟨by rfl,rfl⟩) b ?_
  try simp only[Act.put,List.getElem_toArray,List.getElem_cons_zero,List.getElem_cons_succ,List.setIfInBounds_toArray,List.set_cons_zero,List.set_cons_succ]
  refine wpAnyH_take (i:=6) (v:=undef) rfl (by kernel_rfl) (by kernel_rfl) (by kernel_rfl) (fun _ _ _ h=>h) (Or.inr ⟨by rfl,rfl⟩) b ?_
  try simp only[Act.put,List.getElem_toArray,List.getElem_cons_zero,List.getElem_cons_succ,List.setIfInBounds_toArray,List.set_cons_zero,List.set_cons_succ]
  refine wpAnyH_take (i:=7) (v:=undef) rfl (by kernel_rfl) (by kernel_rfl) (by kernel_rfl) (fun _ _ _ h=>h) (Or.inr ⟨by rfl,rfl⟩) b ?_
  try simp only[Act.put,List.getElem_toArray,List.getElem_cons_zero,List.getElem_cons_succ,List.setIfInBounds_toArray,List.set_cons_zero,List.set_cons_succ]
  refine wpAnyH_take (i:=8) (v:=undef) rfl (by kernel_rfl) (by kernel_rfl) (by kernel_rfl) (fun _ _ _ h=>h) (Or.inr ⟨by rfl,rfl⟩) b ?_
  try simp only[Act.put,List.getElem_toArray,List.getElem_cons_zero,List.getElem_cons_succ,List.setIfInBounds_toArray,List.set_cons_zero,List.set_cons_succ]
  refine wpAnyH_take (i:=9) (v:=undef) rfl (by kernel_rfl) (by kernel_rfl) (by kernel_rfl) (fun _ _ _ h=>h) (Or.inr ⟨by rfl,rfl⟩) b ?_
  try simp only[Act.put,List.getElem_toArray,List.getElem_cons_zero,List.getElem_cons_succ,List.setIfInBounds_toArray,List.set_cons_zero,List.set_cons_succ]
  refine wpAnyH_take (i:=10) (v:=undef) rfl (by kernel_rfl) (by kernel_rfl) (by kernel_rfl) (fun _ _ _ h=>h) (Or.inr ⟨by rfl,rfl⟩) b ?_
  try simp only[Act.put,List.getElem_toArray,List.getElem_cons_zero,List.getElem_cons_succ,List.setIfInBounds_toArray,List.set_cons_zero,List.set_cons_succ]
  refine wpAnyH_take (i:=11) (v:=undef) rfl (by kernel_rfl) (by kernel_rfl) (by kernel_rfl) (fun _ _ _ h=>h) (Or.inr ⟨by rfl,rfl⟩) b ?_
  try simp only[Act.put,List.getElem_toArray,List.getElem_cons_zero,List.getElem_cons_succ,List.setIfInBounds_toArray,List.set_cons_zero,List.set_cons_succ]
  refine wpAnyH_take (i:=12) (v:=.bool true) rfl (by kernel_rfl) (by kernel_rfl) (by kernel_rfl) (fun _ _ _ h=>h) (Or.inl ⟨by rfl,fun W q=>by(obtain⟨O,c,n,P,-⟩:=q;go_simp)⟩) b ?_
  try simp only[Act.put,List.getElem_toArray,List.getElem_cons_zero,List.getElem_cons_succ,List.setIfInBounds_toArray,List.set_cons_zero,List.set_cons_succ]
  refine wpAnyH_done (by kernel_rfl) ?_ _;go_wp2;rw[R.o,j.o];exact⟨rfl,V.o.tr f⟩
end Go.Proofs.YtofcogekgcgjhaaGreatDoor
