/- Packed. -/
import Derived.Test.YtofcogekgcgjhaaGreatDoorZzbm
import Derived.Test.YtofcogekgcgjhaaGreatDoorZzbn
import Derived.Test.YtofcogekgcgjhaaGreatDoorZzbg
set_option maxRecDepth 100000
set_option maxHeartbeats 8000000
namespace Go.Proofs.YtofcogekgcgjhaaGreatDoor
open Go.RowKit Go.Mine Go.Mine.Ac Go.Proofs.Tryz
theorem yE{w:World}{S n m SR:Nat->Prop}{l:Nat->Nat}{d p:Nat}{s o:Value}{D:Dk}{x:Ix}{i ga ra:Option Addr}{j gc rc:Nat}{links:List Ch.Ln}{graphs:List Gr}{r:List Value}{g:Gr}(h:sS w S l d p s o D x n m SR i j links ga gc graphs r ra rc g)(a:(dG D x links graphs g).2.2=0):
  CZ 62 #[pt p,.slice i links.length j,.slice ga graphs.length gc,xG ra rc g] w (I3 w S SR l d p (dG D x links graphs g)):=by
 have c:(K9 g).2=0:=LK fun q=>q (by rw[BN q]at a;exact a)
 have f:(L4 (r7 x links g)).2=0:=LK fun q=>q (by rw[BO c q]at a;exact a)
 have e:∀D1 k,L5 D (Ch.iy x.links) (K9 g).1 (L4 (r7 x links g)).1=(D1,k)->k=0:=fun D1 k q=>LK fun z=>z (by rw[BP c f q z]at a;exact a)
 obtain⟨D1,k1,h1⟩:∃D1 k,D3 D graphT (K9 g).1 (Ch.nameS (Ch.iy x.links))=(D1,k):=⟨_,_,rfl⟩;obtain rfl:k1=0:=LK fun q=>q (e _ _ (yy h1 q))
 obtain⟨D2,k2,h2⟩:∃D2 k,D3 D1 chainT (L4 (r7 x links g)).1 chainB=(D2,k):=⟨_,_,rfl⟩;obtain rfl:k2=0:=LK fun q=>q (e _ _ (yz h1 h2 q))
 obtain⟨b,k3,h3⟩:∃b k,D2.syncNames=(b,k):=⟨_,_,rfl⟩;obtain rfl:k3=0:=e b k3 ((jJ h1 h2).trans h3);exact BR h c f h1 h2 h3
theorem I3.back{w W w':World}{S k:Nat->Prop}{j:Nat->Nat}{d p:Nat}{r:Dk×Ix×Nat}{e:Ending}(h:I3 W S k j d p r e w')(t:TF w W)(m:∀b,k b->j b≠0∨w.heap.size<=b):I3 w S (fun _=>False) j d p r e w':=by obtain⟨h1,S',o,n,l,a,b,c,e,f,g,i⟩:=h;have z:=t.size;exact⟨h1,S',o,n,l,a,fun x hx=>(b x hx).imp id fun q=>by omega,c,e,fun x hx=>(f x hx).elim .inl fun q=>q.elim (fun q=>(m x q).imp id .inr) fun q=>.inr (.inr (by omega)),g,t.comp i fun i _ q=>q.elim False.elim id⟩
theorem BU{s:St}{g:I2}{base:Int}{known:List Int}(e:0<=base∧base<=524288)(a:n0 g)(b:g.seed<4294967296):iF (D9 s g base known):=by obtain⟨h1,h2,h3,h4,c,d⟩:=a;exact⟨⟨by simp only[D9];omega,by simp only[D9];omega⟩,⟨by simp only[D9];omega,by simp only[D9];omega⟩,⟨by simp only[D9];omega,by simp only[D9];omega⟩,⟨by simp only[D9];omega,by simp only[D9];omega⟩,b⟩
theorem sX{x:Ix}{s:St}{g:I2}(h:H9 x s g=0):n0 g∧x.len<=s.commits.length:=by
 unfold H9 at h;split at h
 ·simp at h
 ·rename_i q;rw[not_or]at q;exact⟨Classical.not_not.1 q.1,by omega⟩
theorem pP(x:Ix)(s:St)(g:I2):H9 x s g<=1:=by unfold H9;split<;>omega
theorem pQ{w:World}{S:Nat->Prop}{rs F:Nat->Nat}{d q p:Nat}{dv tv cv lv gv:Value}{D:Dk}{x:Ix}{s:St}(hD:J0 w S d D)(az:D.Ok)(au:R7 D 800000000)(ae:∀b,S b->b<w.heap.size)(hs:F4 140 w rs q dv tv cv s)(aj:B9 s)(hx:ed w F p (pt d) lv gv x)(B:G0 x)(ax:Ch.Bx x.links)
  (aa:∀b,S b->F b=0) (g:I2) (al:g.seed<4294967296) (ab:(D6 D x s g).2.2=0) (ar:¬(s.commits.length:Int)=x.len) (ap:¬8<=x.links.length) (tab:∀W,d7 (fun b=>S b∨b=p) w W->Ch.jr W∧Ch.ia W):
  CZ 18 #[pt p,.iface 34 (pt q),J3 g] w (I3 w S (fun _=>False) F d p (D6 D x s g)):=by
 obtain⟨Z,hZ⟩:=EX (I3 w S (fun _=>False) F d p (D6 D x s g));have HZ:Hid (Z=I3 w S (fun _=>False) F d p (D6 D x s g)):=hZ;rw[<-hZ];have m1:=cW q;obtain⟨k,hV⟩:=EX (w.alloc (.cells #[.int .i64 g.h,.int .i64 g.p,.int .i64 g.m,.int .u32 g.seed] 24));have aH:Hid (k=w.alloc (.cells #[.int .i64 g.h,.int .i64 g.p,.int .i64 g.m,.int .u32 g.seed] 24)):=hV;have G:TF w k:=by rw[hV];exact TA
 have xV:k.heap[w.heap.size]?=some (.cells #[.int .i64 g.h,.int .i64 g.p,.int .i64 g.m,.int .u32 g.seed] 24):=by rw[hV];exact i8 _ _
 have ac:Hid (∀W,TF k W->W.cell? ⟨w.heap.size,0,none⟩=some (.int .i64 g.h)∧W.cell? ⟨w.heap.size,1,none⟩=some (.int .i64 g.p)∧W.cell? ⟨w.heap.size,2,none⟩=some (.int .i64 g.m)∧W.cell? ⟨w.heap.size,3,none⟩=some (.int .u32 g.seed)∧w.heap.size<W.heap.size):=fun W t=>by have h:=j9 xV t id;exact⟨g9 h 0 _ rfl,g9 h 1 _ rfl,g9 h 2 _ rfl,g9 h 3 _ rfl,i6 h⟩
 have TV:Hid (TF w k):=G;have HR:Hid (CZ 61 #[pt p,.iface 34 (pt q),.agg #[.int .i64 g.h,.int .i64 g.p,.int .i64 g.m,.int .u32 g.seed]] k (RT (.int .i64 (H9 x s g:Nat)) k)):=il (hx.turned G fun _ _ z=>z) B (hs.turned G fun _ _ z=>z) g;have HC:Hid (∀W,TF k W->CZ 30 #[pt q] W fun e w'=>e=.returned (.int .i64 s.commits.length)∧W=w'):=fun W t=>O4 ((hs.turned G fun _ _ z=>z).turned t fun _ _ z=>z)
 obtain⟨v0,v1,v2,v3,v4⟩:=ac.o k TQ;have aA:=pP x s g;obtain⟨r,V⟩:=EX (H9 x s g);obtain⟨C,Q⟩:=EX s.commits.length;rw[<-V]at HR aA;rw[<-Q]at HC;have aR:r=0:=by
  apply LK;intro q;have:D6 D x s g=(D,x,H9 x s g):=by unfold D6;rw[if_pos (by rw[<-V];exact q)]
  rw[this]at ab;exact q (V.trans ab)
 subst aR;obtain⟨hg,aw⟩:=sX V.symm;have HL:Hid (∀W,TF k W->CZ 15 #[pt p] W fun e w'=>e=.returned (.int .i64 x.len)∧TF k w'∧TF W w'):=fun W t=>(eC ((hx.turned G fun _ _ z=>z).turned t fun _ _ z=>z) B).mono fun e w'⟨a,b⟩=>⟨a,t.tr b,b⟩
 have am:0<=x.len∧x.len<=524288:=by have:=Q9 B x.links.length;rw[List.take_length]at this;exact this
 have ah:=yi B;obtain⟨xl,Y⟩:=EX x.len;rw[<-Y]at HL ah aw am;have ag:¬(C:Int)=xl:=by rw[Q,Y];exact ar
 have d1:((C:Int)==xl)=false:=by simp[ag]
 obtain⟨xa,xc,aQ,aP⟩:=Ch.cU hx.links (jx.of B);subst aQ;obtain⟨aK,ak,av⟩:=hx.graphs;obtain⟨ga,gc,rfl,-,-⟩:=ak.value;obtain⟨N,U⟩:=EX x.links.length;obtain⟨gl,ai⟩:=EX x.graphs.length;have an:Hid (∀W,TF k W->W.cell? ⟨p,1,none⟩=some (.slice xa N xc)∧W.cell? ⟨p,2,none⟩=some (.slice ga gl gc)∧p<W.heap.size):=fun W t=>by have h:=j9 (j9 hx.blk G id) t id;rw[U,ai];exact⟨g9 h 1 _ rfl,g9 h 2 _ rfl,i6 h⟩
 have ay:=B.many;rw[<-U]at ay;have h8:¬8<=N:=by rw[U];exact ap
 have HE:Hid (D6 D x s g=dG D x x.links x.graphs (D9 s g x.len (dx x))):=i7 (by unfold D6;rw[if_neg (by rw[<-V];simp),if_neg (by rw[<-Q,<-Y];exact ag),if_neg (by rw[<-U];exact h8)]);have hk:(dG D x x.links x.graphs (D9 s g x.len (dx x))).2.2=0:=by rw[HE.o]at ab;exact ab
 have e1:decide ((8:Int)<=(N:Int))=false:=by simp;omega
 have e2:decide (8<=N)=false:=by simp;omega
 obtain⟨P,hG⟩:=EX (dx x);obtain⟨gk,T⟩:=EX P.length;have aN:(gk:Int)=xl:=by rw[T,hG];exact ah
 have aE:Hid (∀W,TF k W->CZ 64 #[pt p] W fun e w'=>∃a c,e=.returned (.slice a gk c)∧Sl w' (fun b=>k.heap.size<=b) 3 1 (.slice a gk c) (ic P) gk∧TF k w'):=fun W t=>by
  refine(yk ((hx.turned G fun _ _ z=>z).turned t fun _ _ z=>z) B).mono fun e w'⟨v,a,b,c⟩=>?_
  rw[<-hG,<-T]at b;obtain⟨a',c',rfl,-,-⟩:=b.value;exact⟨a',c',a,b.widen fun y hy=>LR t.size hy,t.tr c⟩
 obtain⟨R,hR⟩:=EX (E4 s g (s.commits.length-P.length) P);obtain⟨K,u⟩:=EX R.length;have aq:R.length=C-gk:=by rw[hR,M0,Q,T]
 have aL:C<=65536:=by rw[Q];exact aj.commits
 have aU:Hid (∀W O,TF k W->d7 (fun b=>S b∨b=p) W O->O.cell? ⟨w.heap.size,0,none⟩=some (.int .i64 g.h)∧O.cell? ⟨w.heap.size,1,none⟩=some (.int .i64 g.p)∧O.cell? ⟨w.heap.size,2,none⟩=some (.int .i64 g.m)∧O.cell? ⟨w.heap.size,3,none⟩=some (.int .u32 g.seed)):=fun W O t t4=>by have h:=j9 (j9 xV t id) t4 (fun z=>z.elim (fun z=>by have:=ae _ z;omega) fun z=>by have:=i6 hx.blk;omega);exact⟨g9 h 0 _ rfl,g9 h 1 _ rfl,g9 h 2 _ rfl,g9 h 3 _ rfl⟩
 have aG:Hid (∀W ka kc,TF k W->Sl W (fun b=>k.heap.size<=b) 3 1 (.slice ka gk kc) (ic P) gk->CZ 63 #[.iface 34 (pt q),.agg #[.int .i64 g.h,.int .i64 g.p,.int .i64 g.m,.int .u32 g.seed],.slice ka gk kc] W fun e w'=>∃a c H,e=.returned (.slice a K c)∧N0 w' H a c R∧(∀b,H b->k.heap.size<=b∧b<w'.heap.size)∧TF k w'):=fun W ka kc t hk=>by
  rw[T]at hk;refine T▸(yx ((hs.turned G fun _ _ z=>z).turned t fun _ _ z=>z) aj g hg al (known:=P) hk (hG▸Af B) (by omega)).mono fun e w'⟨v,H,S3,a,b,c,f,i,j⟩=>?_
  have aB:=t.size;obtain⟨a',c',rfl,ad⟩:=b.is;rw[<-hR]at a ad;rw[<-u]at a;exact⟨a',c',fun b=>H b∨S3 b,a,ad,fun b M=>⟨M.elim (fun z=>LR aB (c b z)) fun z=>LR aB (f b z),i b M⟩,t.tr j⟩
 have aF:Hid (∀W a c H,TF k W->N0 W H a c R->(∀b,H b->k.heap.size<=b∧b<W.heap.size)->CZ 62 #[pt p,.slice xa N xc,.slice ga gl gc,.agg #[.int .i64 xl,.int .i64 g.h,.int .i64 g.p,.int .i64 g.m,.int .u32 g.seed,.slice a K c]] W fun e w'=>I3 w S (fun _=>False) F d p (dG D x x.links x.graphs (D9 s g x.len (dx x))) e w'∧d7 (fun b=>S b∨b=p) W w'):=fun W a c H t ad M=>by
  have I:=G.tr t;have zV:=G.size;have hv:=i6 xV;have af:(D9 s g x.len (dx x)).rows=R:=by rw[hR,hG];rfl
  have aM:∀b,F b=4∨H b->¬S b∧¬b=p∧b<W.heap.size:=fun b z=>by
   rcases z with z|z
   ·exact⟨fun y=>by have:=aa b y;omega,fun y=>by rw[y,hx.r1]at z;simp at z,LC (hx.bnd b (by omega)) I.size⟩
   ·exact⟨fun y=>by have:=ae b y;have:=(M b z).1;omega,fun y=>by have:=i6 hx.blk;have:=(M b z).1;omega,(M b z).2⟩
  have aO:sS W S F d p (.slice xa x.links.length xc) (.slice ga x.graphs.length gc) D x (fun b=>F b=2) (fun b=>F b=3) (fun b=>F b=4∨H b) xa xc x.links ga gc x.graphs aK a c (D9 s g x.len (dx x)):=⟨hD.turned I fun _ _ z=>z,az,au,fun b z=>LC (ae b z) I.size,hx.turned I fun _ _ z=>z,B,ax,aa,hx.links.turned I fun _ _ z=>z,jx.of B,B.many,ak.turned I fun _ _ z=>z,fun i y hi=>?_,by rw[B.both];exact B.many,by rw[af];exact ad.mono fun b z=>.inr z,BU (by rw[<-Y];exact am) hg al,by rw[af,aq];omega,fun b z y=>by have:=aa b y;omega,fun b z=>⟨fun y=>by have:=aa b y;omega,fun y=>by rw[y,hx.r1]at z;simp at z⟩,aM,fun X tX=>tab X (I.comp tX fun i _ z=>z.elim False.elim id)⟩
  ·have:=yE aO hk;unfold xG at this;rw[af,<-u,<-U,<-ai]at this;rw[Y];exact this.mono fun e w' y=>⟨y.back I fun b z=>z.elim (fun z=>.inl (by omega)) fun z=>.inr (by have:=(M b z).1;omega),by obtain⟨_,_,_,_,_,_,_,_,_,_,_,z⟩:=y;exact z⟩
  ·obtain⟨a',cap,e0,e1,e2,e3,e4,e5,e6,e7⟩:=av i y hi;exact⟨a',cap,e0,e1,e2,e3,e4,e5,e6,(e7.turned I fun _ _ z=>z).mono fun b z=>.inl z⟩
 clear ab ar ap hk hZ hV G xV hD az au ae hs aj hx B ax aa al tab V Q hg aw aA am ah Y ag aP ak av U ai ay h8 hR u aq aL hG T aN;go_enter func18,ntmps18;go_wp2_with fail;rw[<-aH.o]
 go_wp2_with(first
  |(go_fit HR.o;rintro e w1⟨rfl,q1⟩;obtain⟨u0,u1,u2,u3,u4⟩:=ac.o w1 q1;replace q1:=i7 q1)
  |(go_fit(HC.o _ q1.o);rintro e w2⟨rfl,rfl⟩)
  |(go_fit(HL.o _ q1.o);rintro e w2⟨rfl,q2,-⟩;obtain⟨s0,s1,s2,s3,s4⟩:=ac.o w2 q2;obtain⟨p1,p2,p3⟩:=an.o w2 q2;replace q2:=i7 q2))
 have L:Hid (∀W,TF k W->W.cell? ⟨w.heap.size,0,none⟩=some (.int .i64 g.h)∧W.cell? ⟨w.heap.size,1,none⟩=some (.int .i64 g.p)∧W.cell? ⟨w.heap.size,2,none⟩=some (.int .i64 g.m)∧W.cell? ⟨w.heap.size,3,none⟩=some (.int .u32 g.seed)∧W.cell? ⟨p,1,none⟩=some (.slice xa N xc)∧W.cell? ⟨p,2,none⟩=some (.slice ga gl gc)):=fun W t=>by obtain⟨a0,a1,a2,a3,-⟩:=ac.o W t;obtain⟨b1,b2,-⟩:=an.o W t;exact⟨a0,a1,a2,a3,b1,b2⟩
 have J:Hid (TF k w2.drew):=i7 q2.o.draw;clear v0 v1 v2 v3 v4 u0 u1 u2 u3 u4 s0 s1 s2 s3 s4 p1 p2 p3;refine sV 18 (fun W=>W.cell? ⟨w.heap.size,0,none⟩=some (.int .i64 g.h)∧W.cell? ⟨w.heap.size,1,none⟩=some (.int .i64 g.p)∧W.cell? ⟨w.heap.size,2,none⟩=some (.int .i64 g.m)∧W.cell? ⟨w.heap.size,3,none⟩=some (.int .u32 g.seed)∧W.cell? ⟨p,1,none⟩=some (.slice xa N xc)∧W.cell? ⟨p,2,none⟩=some (.slice ga gl gc)) (by kernel_rfl) ?_;have n:=L.o _ J.o;refine p4 (i:=0) (o:={dst:=some 32,op:=Op.move (Operand.tmp 0),type:=26,pos:= "accel.go:173",after:=#[],guard:=none}) (v:=?_) rfl (by kernel_rfl) (by kernel_rfl) (by kernel_rfl) (by decide) (fun _ _ _ h=>h) (Or.inl ⟨by rfl,?_⟩) (.inr n) ?_
 rotate_left
 ·intro A l;go_simp;try with_reducible rfl
 try simp only[Act.put,List.setIfInBounds_toArray,List.set_cons_zero,List.set_cons_succ]
 refine p4 (i:=1) (o:={dst:=some 33,op:=Op.move (Operand.tmp 0),type:=26,pos:= "accel.go:173",after:=#[],guard:=none}) (v:=?_) rfl (by kernel_rfl) (by kernel_rfl) (by kernel_rfl) (by decide) (fun _ _ _ h=>h) (Or.inl ⟨by rfl,?_⟩) (.inr n) ?_
 rotate_left
 ·intro A l;go_simp;try with_reducible rfl
 try simp only[Act.put,List.setIfInBounds_toArray,List.set_cons_zero,List.set_cons_succ]
 refine p4 (i:=2) (o:={dst:=some 34,op:=Op.nilCheck (Operand.tmp 33),type:=0,pos:= "accel.go:173",after:=#[{on:=1,ground:=Ground.data}],guard:=none}) (v:=?_) rfl (by kernel_rfl) (by kernel_rfl) (by kernel_rfl) (by decide) (fun _ _ _ h=>h) (Or.inl ⟨by rfl,?_⟩) (.inr n) ?_
 rotate_left
 ·intro A l;go_simp;try with_reducible rfl
 try simp only[Act.put,List.setIfInBounds_toArray,List.set_cons_zero,List.set_cons_succ]
 refine p4 (i:=3) (o:={dst:=some 35,op:=Op.fieldAddr 116 (Operand.tmp 34) 1,type:=0,pos:= "accel.go:173",after:=#[{on:=2,ground:=Ground.data}],guard:=none}) (v:=?_) rfl (by kernel_rfl) (by kernel_rfl) (by kernel_rfl) (by decide) (fun _ _ _ h=>h) (Or.inl ⟨by rfl,?_⟩) (.inr n) ?_
 rotate_left
 ·intro A l;go_simp;try with_reducible rfl
 try simp only[Act.put,List.setIfInBounds_toArray,List.set_cons_zero,List.set_cons_succ]
 refine X5 (i:=4) (o:={dst:=some 36,op:=Op.load 113 (Operand.tmp 35),type:=113,pos:= "accel.go:173",after:=#[{on:=3,ground:=Ground.data}],guard:=none}) (v:=?_) rfl (by kernel_rfl) (by kernel_rfl) (by kernel_rfl) (.inl (by kernel_rfl)) (by kernel_rfl) (fun _ _ _ h=>h) (Or.inl ⟨by rfl,?_⟩) n ?_
 rotate_left
 ·intro A l;(try dsimp only at l);obtain⟨s0,s1,s2,s3,s4,s5⟩:=l;go_simp;try with_reducible rfl
 try simp only[Act.put,List.setIfInBounds_toArray,List.set_cons_zero,List.set_cons_succ]
 refine p4 (i:=5) (o:={dst:=some 37,op:=Op.move (Operand.tmp 0),type:=26,pos:= "accel.go:173",after:=#[],guard:=none}) (v:=?_) rfl (by kernel_rfl) (by kernel_rfl) (by kernel_rfl) (by decide) (fun _ _ _ h=>h) (Or.inl ⟨by rfl,?_⟩) (.inr n) ?_
 rotate_left
 ·intro A l;go_simp;try with_reducible rfl
 try simp only[Act.put,List.setIfInBounds_toArray,List.set_cons_zero,List.set_cons_succ]
 refine p4 (i:=6) (o:={dst:=some 38,op:=Op.nilCheck (Operand.tmp 37),type:=0,pos:= "accel.go:173",after:=#[{on:=5,ground:=Ground.data}],guard:=none}) (v:=?_) rfl (by kernel_rfl) (by kernel_rfl) (by kernel_rfl) (by decide) (fun _ _ _ h=>h) (Or.inl ⟨by rfl,?_⟩) (.inr n) ?_
 rotate_left
 ·intro A l;go_simp;try with_reducible rfl
 try simp only[Act.put,List.setIfInBounds_toArray,List.set_cons_zero,List.set_cons_succ]
 refine p4 (i:=7) (o:={dst:=some 39,op:=Op.fieldAddr 116 (Operand.tmp 38) 2,type:=0,pos:= "accel.go:173",after:=#[{on:=6,ground:=Ground.data}],guard:=none}) (v:=?_) rfl (by kernel_rfl) (by kernel_rfl) (by kernel_rfl) (by decide) (fun _ _ _ h=>h) (Or.inl ⟨by rfl,?_⟩) (.inr n) ?_
 rotate_left
 ·intro A l;go_simp;try with_reducible rfl
 try simp only[Act.put,List.setIfInBounds_toArray,List.set_cons_zero,List.set_cons_succ]
 refine X5 (i:=8) (o:={dst:=some 40,op:=Op.load 114 (Operand.tmp 39),type:=114,pos:= "accel.go:173",after:=#[{on:=7,ground:=Ground.data}],guard:=none}) (v:=?_) rfl (by kernel_rfl) (by kernel_rfl) (by kernel_rfl) (.inl (by kernel_rfl)) (by kernel_rfl) (fun _ _ _ h=>h) (Or.inl ⟨by rfl,?_⟩) n ?_
 rotate_left
 ·intro A l;(try dsimp only at l);obtain⟨s0,s1,s2,s3,s4,s5⟩:=l;go_simp;try with_reducible rfl
 try simp only[Act.put,List.setIfInBounds_toArray,List.set_cons_zero,List.set_cons_succ]
 refine p4 (i:=9) (o:={dst:=some 41,op:=Op.move (Operand.tmp 0),type:=26,pos:= "accel.go:173",after:=#[],guard:=none}) (v:=?_) rfl (by kernel_rfl) (by kernel_rfl) (by kernel_rfl) (by decide) (fun _ _ _ h=>h) (Or.inl ⟨by rfl,?_⟩) (.inr n) ?_
 rotate_left
 ·intro A l;go_simp;try with_reducible rfl
 try simp only[Act.put,List.setIfInBounds_toArray,List.set_cons_zero,List.set_cons_succ]
 refine X5 (i:=11) (o:={dst:=some 43,op:=Op.load 24 (Operand.tmp 5),type:=24,pos:= "accel.go:173",after:=#[],guard:=none}) (v:=?_) rfl (by kernel_rfl) (by kernel_rfl) (by kernel_rfl) (.inr ⟨17,by kernel_rfl,by kernel_rfl,by kernel_rfl⟩) (by kernel_rfl) (fun _ _ _ h=>h) (Or.inl ⟨by rfl,?_⟩) n ?_
 rotate_left
 ·intro A l;(try dsimp only at l);obtain⟨s0,s1,s2,s3,s4,s5⟩:=l;go_simp;try with_reducible rfl
 try simp only[Act.put,List.setIfInBounds_toArray,List.set_cons_zero,List.set_cons_succ]
 refine p4 (i:=12) (o:={dst:=some 44,op:=Op.move (Operand.tmp 1),type:=133,pos:= "accel.go:173",after:=#[],guard:=none}) (v:=?_) rfl (by kernel_rfl) (by kernel_rfl) (by kernel_rfl) (by decide) (fun _ _ _ h=>h) (Or.inl ⟨by rfl,?_⟩) (.inr n) ?_
 rotate_left
 ·intro A l;go_simp;try with_reducible rfl
 try simp only[Act.put,List.setIfInBounds_toArray,List.set_cons_zero,List.set_cons_succ]
 refine X5 (i:=13) (o:={dst:=some 45,op:=Op.load 24 (Operand.tmp 5),type:=24,pos:= "accel.go:173",after:=#[],guard:=none}) (v:=?_) rfl (by kernel_rfl) (by kernel_rfl) (by kernel_rfl) (.inr ⟨16,by kernel_rfl,by kernel_rfl,by kernel_rfl⟩) (by kernel_rfl) (fun _ _ _ h=>h) (Or.inl ⟨by rfl,?_⟩) n ?_
 rotate_left
 ·intro A l;(try dsimp only at l);obtain⟨s0,s1,s2,s3,s4,s5⟩:=l;go_simp;try with_reducible rfl
 try simp only[Act.put,List.setIfInBounds_toArray,List.set_cons_zero,List.set_cons_succ]
 refine p4 (i:=14) (o:={dst:=some 46,op:=Op.move (Operand.tmp 0),type:=26,pos:= "accel.go:173",after:=#[],guard:=none}) (v:=?_) rfl (by kernel_rfl) (by kernel_rfl) (by kernel_rfl) (by decide) (fun _ _ _ h=>h) (Or.inl ⟨by rfl,?_⟩) (.inr n) ?_
 rotate_left
 ·intro A l;go_simp;try with_reducible rfl
 try simp only[Act.put,List.setIfInBounds_toArray,List.set_cons_zero,List.set_cons_succ]
 refine X6 (rs:=[10]) (by kernel_rfl) (by simp) ?_;refine de (o:={dst:=some 42,op:=Op.call {callee:=Callee.value (Operand.func 15),args:=#[Operand.tmp 41],argTypes:=#[26]},type:=3,pos:= "accel.go:173",after:=#[{on:=9,ground:=Ground.data}],guard:=none}) rfl (fun K u=>?_) eG
 ·(go_simp;go_fit(HL.o _ J.o);rintro e wx⟨rfl,E,qy⟩;refine u.out _ _ (.inr (.inr (L.o _ E))) ?_;have J:Hid _:=i7 E;have n:=L.o _ E;clear E qy u K)
  try simp only[Act.put,List.setIfInBounds_toArray,List.set_cons_zero,List.set_cons_succ]
  refine X6 (rs:=[15]) (by kernel_rfl) (by simp) ?_;refine de (o:={dst:=some 47,op:=Op.call {callee:=Callee.value (Operand.func 64),args:=#[Operand.tmp 46],argTypes:=#[26]},type:=41,pos:= "accel.go:173",after:=#[{on:=14,ground:=Ground.data},{on:=10,ground:=Ground.chain}],guard:=none}) rfl (fun K u=>?_) eG
  ·(go_simp;go_fit(aE.o _ J.o);rintro e wx⟨aI,aJ,rfl,ao,E⟩;refine u.out _ _ (.inr (.inr (L.o _ E))) ?_;have G3:Hid _:=i7 ao;clear ao;have J:Hid _:=i7 E;have n:=L.o _ E;clear E u K)
   try simp only[Act.put,List.setIfInBounds_toArray,List.set_cons_zero,List.set_cons_succ]
   refine X6 (rs:=[16]) (by kernel_rfl) (by simp) ?_;refine de (o:={dst:=some 48,op:=Op.call {callee:=Callee.value (Operand.func 63),args:=#[Operand.tmp 44,Operand.tmp 45,Operand.tmp 47],argTypes:=#[133,24,41]},type:=121,pos:= "accel.go:173",after:=#[{on:=12,ground:=Ground.data},{on:=13,ground:=Ground.data},{on:=15,ground:=Ground.data},{on:=15,ground:=Ground.chain}],guard:=none}) rfl (fun K u=>?_) eG
   ·(go_simp;go_fit(aG.o _ aI aJ J.o G3.o);rintro e wx⟨aS,aT,S3,rfl,aD,aC,E⟩;refine u.out _ _ (.inr (.inr (L.o _ E))) ?_;have R3:Hid _:=i7 (And.intro aD aC);clear aD aC;have J:Hid _:=i7 E;have n:=L.o _ E;clear E u K)
    try simp only[Act.put,List.setIfInBounds_toArray,List.set_cons_zero,List.set_cons_succ]
    refine p4 (i:=17) (o:={dst:=some 49,op:=Op.build 123 #[(0,Operand.tmp 42),(1,Operand.tmp 43),(2,Operand.tmp 48)],type:=123,pos:= "accel.go:173",after:=#[{on:=10,ground:=Ground.data},{on:=11,ground:=Ground.data},{on:=16,ground:=Ground.data}],guard:=none}) (v:=?_) rfl (by kernel_rfl) (by kernel_rfl) (by kernel_rfl) (by decide) (fun _ _ _ h=>h) (Or.inl ⟨by rfl,?_⟩) (.inr n) ?_
    rotate_left
    ·intro A l;go_simp;try with_reducible rfl
    try simp only[Act.put,List.setIfInBounds_toArray,List.set_cons_zero,List.set_cons_succ]
    refine X6 (rs:=[18]) (by kernel_rfl) (by simp) ?_;refine de (o:={dst:=some 50,op:=Op.call {callee:=Callee.value (Operand.func 62),args:=#[Operand.tmp 32,Operand.tmp 36,Operand.tmp 40,Operand.tmp 49],argTypes:=#[26,113,114,123]},type:=27,pos:= "accel.go:173",after:=#[{on:=0,ground:=Ground.data},{on:=4,ground:=Ground.data},{on:=8,ground:=Ground.data},{on:=17,ground:=Ground.data},{on:=16,ground:=Ground.chain}],guard:=none}) rfl (fun K u=>?_) eG
    (go_simp;go_fit(aF.o _ aS aT S3 J.o R3.o.1 R3.o.2);rintro e O⟨⟨rfl,y4⟩,-⟩;refine u.out _ _ (.inr (.inl rfl)) ?_;replace y4:=i7 y4;clear u K)
    try simp only[Act.put,List.setIfInBounds_toArray,List.set_cons_zero,List.set_cons_succ]
    refine p4 (i:=19) (o:={dst:=some 6,op:=Op.assign (Operand.tmp 50),type:=27,pos:= "accel.go:173",after:=#[{on:=18,ground:=Ground.data},{on:=18,ground:=Ground.chain},{on:=0,ground:=Ground.phase},{on:=1,ground:=Ground.phase},{on:=2,ground:=Ground.phase},{on:=3,ground:=Ground.phase},{on:=4,ground:=Ground.phase},{on:=5,ground:=Ground.phase},{on:=6,ground:=Ground.phase},{on:=7,ground:=Ground.phase},{on:=8,ground:=Ground.phase},{on:=9,ground:=Ground.phase},{on:=10,ground:=Ground.phase},{on:=11,ground:=Ground.phase},{on:=12,ground:=Ground.phase},{on:=13,ground:=Ground.phase},{on:=14,ground:=Ground.phase},{on:=15,ground:=Ground.phase},{on:=16,ground:=Ground.phase},{on:=17,ground:=Ground.phase},{on:=18,ground:=Ground.phase}],guard:=none}) (v:=?_) rfl (by kernel_rfl) (by kernel_rfl) (by kernel_rfl) (by decide) (fun _ _ _ h=>h) (Or.inl ⟨by rfl,?_⟩) (.inl (by kernel_rfl)) ?_
    rotate_left
    ·intro A l;go_simp;try with_reducible rfl
    try simp only[Act.put,List.setIfInBounds_toArray,List.set_cons_zero,List.set_cons_succ]
    refine oe (by kernel_rfl) ?_ _;go_wp2;rw[HZ.o,HE.o];exact⟨rfl,y4.o⟩
structure PW (w0 w:World) (S:Nat->Prop) (rs rx:Nat->Nat) (d q p:Nat) (D:Dk) (s:St) (x:Ix):Prop where
 disk:J0 w S d D
 dok:D.Ok
 sb:∀b,S b->w0.heap.size<=b∧b<w.heap.size
 st:∃tv cv,F4 140 w rs q (pt d) tv cv s
 good:B9 s
 ix:∃lv gv,ed w rx p (pt d) lv gv x
 iok:G0 x
 low:Ch.Bx x.links
 b1:∀b,rs b≠0->w0.heap.size<=b
 b2:∀b,rx b≠0->w0.heap.size<=b
 d1:∀b,S b->rs b=0∧rx b=0
 d2:∀b,rs b≠0->rx b=0
 tw:TF w0 w
def J4(e w:World)(c:Nat->Prop)(d q p:Nat)(D:Dk)(s:St)(x:Ix):Prop:=∃S rs a,PW e w S rs a d q p D s x∧∀b,S b∨rs b≠0∨a b≠0->c b
theorem J4.turned{f w w':World}{c T:Nat->Prop}{d q p:Nat}{D:Dk}{s:St}{x:Ix}(h:J4 f w c d q p D s x)(t:d7 T w w')(e:∀b,c b->¬T b)(k:∀b,T b->f.heap.size<=b):J4 f w' c d q p D s x:=by obtain⟨S,rs,m,h,a⟩:=h;obtain⟨n,g,h1⟩:=h.st;obtain⟨l,j,h2⟩:=h.ix;exact⟨S,rs,m,⟨h.disk.turned t fun b z=>e b (a b (.inl z)),h.dok,fun b z=>⟨(h.sb b z).1,LC (h.sb b z).2 t.size⟩,⟨n,g,h1.turned t fun b z=>e b (a b (.inr (.inl z)))⟩,h.good,⟨l,j,h2.turned t fun b z=>e b (a b (.inr (.inr z)))⟩,h.iok,h.low,h.b1,h.b2,h.d1,h.d2,h.tw.comp t fun i o z=>z.elim id fun z=>by have:=k i z;omega⟩,a⟩
theorem J4.still{b w w':World}{a:Nat->Prop}{d q p:Nat}{D:Dk}{s:St}{x:Ix}(h:J4 b w a d q p D s x)(t:TF w w'):J4 b w' a d q p D s x:=h.turned t (fun _ _ z=>z) fun _ z=>z.elim
abbrev Fe(a:Nat->Prop)(w:World):Nat->Prop:=fun b=>a b∨w.heap.size<=b
def vG(b w:World)(a:Nat->Prop)(d q p:Nat)(D:Dk)(s:St)(x:Ix)(w':World):Prop:=J4 b w' (Fe a w) d q p D s x∧d7 a w w'
theorem J4.new_le{a w:World}{b:Nat->Prop}{d q p:Nat}{D:Dk}{s:St}{x:Ix}(h:J4 a w b d q p D s x):TF a w:=by obtain⟨S,rs,e,h,c⟩:=h;exact h.tw
theorem fA.pw{n w w':World}{m S:Nat->Prop}{rs e:Nat->Nat}{d q p:Nat}{D D':Dk}{s l:St}{x:Ix}(h:PW n w S rs e d q p D s x)(c:∀b,S b∨rs b≠0∨e b≠0->m b)(a:fA w S rs d q D' l w')(C:D'.Ok)(B:B9 l):vG n w m d q p D' l x w':=by
 obtain⟨S',F,G,v,o,f,r,t,g,u,j⟩:=a;obtain⟨E,A,h2⟩:=h.ix;have I:=h.tw.size;have hx:∀b,e b≠0->b<w.heap.size:=h2.bnd;refine⟨⟨S',F,e,⟨o,C,fun b z=>⟨?_,r b z⟩,⟨G,v,t⟩,B,⟨E,A,h2.turned j fun b z y=>?_⟩,h.iok,h.low,fun b z=>?_,h.b2,fun b z=>⟨u b z,?_⟩,fun b z=>?_,h.tw.comp j fun i H z=>?_⟩,fun b z=>?_⟩,j.mono fun b _ z=>c b (z.imp id .inl)⟩
 ·rcases f b z with y|y
  ·exact(h.sb b y).1
  ·omega
 ·rcases y with y|y
  ·exact z (h.d1 b y).2
  ·exact z (h.d2 b y)
 ·rcases g b z with y|y
  ·exact h.b1 b y
  ·omega
 ·rcases f b z with y|y
  ·exact(h.d1 b y).2
  ·apply LK;intro k;have:=hx b k;omega
 ·rcases g b z with y|y
  ·exact h.d2 b y
  ·apply LK;intro k;have:=hx b k;omega
 ·rcases z with z|z|z
  ·exact z
  ·have:=(h.sb i z).1;omega
  ·have:=h.b1 i z;omega
 ·rcases z with z|z|z
  ·exact(f b z).imp (fun y=>c b (.inl y)) id
  ·exact(g b z).imp (fun y=>c b (.inr (.inl y))) id
  ·exact .inl (c b (.inr (.inr z)))
theorem vH{j w:World}{c S0:Nat->Prop}{d q p:Nat}{D:Dk}{s:St}{x:Ix}{a:Option Addr}{cap:Nat}{t:List Ent}(h:J4 j w c d q p D s x)(i:H1 w S0 a cap t)(g:∀b,S0 b->¬c b)(k:t.length<=1000000000):
  CZ 21 #[pt q,.slice a t.length cap] w fun e w'=>e=.returned (.tuple #[.int .i64 (addTree D s t).2.2.1,.int .i64 ((addTree D s t).2.2.2:Nat)])∧vG j w c d q p (addTree D s t).1 (addTree D s t).2.1 x w':=by
 obtain⟨S,rs,o,h,f⟩:=h;obtain⟨r,n,h1⟩:=h.st;refine(iW h.disk h.dok h1 (fun b z=>(h.d1 b z).1) (fun b z=>(h.sb b z).2) i (fun b z=>⟨fun y=>g b z (f b (.inl y)),?_⟩) k).mono fun e w'⟨l,m⟩=>⟨l,m.pw h f (iZ s t h.dok fun b=>gE h.dok s 1 b) (h.good.addTree i.2.2.1)⟩
 apply LK;intro y;exact g b z (f b (.inr (.inl y)))
theorem pR{j w:World}{f S0:Nat->Prop}{d q p:Nat}{D:Dk}{s:St}{x:Ix}{a:Option Addr}{cap:Nat}{c:Cm}(h:J4 j w f d q p D s x)(k:p7 w S0 a cap c.par)(i:∀b,S0 b->¬f b)(l:c.par.length<=1000000000):
  CZ 22 #[pt q,kJ a cap c] w fun e w'=>e=.returned (.tuple #[.int .i64 (addCommit D s c).2.2.1,.int .i64 ((addCommit D s c).2.2.2:Nat)])∧vG j w f d q p (addCommit D s c).1 (addCommit D s c).2.1 x w':=by
 obtain⟨S,rs,r,h,g⟩:=h;obtain⟨t,o,h1⟩:=h.st;refine(gi h.disk h.dok h1 (fun b z=>(h.d1 b z).1) (fun b z=>(h.sb b z).2) k (fun b z=>⟨fun y=>i b z (g b (.inl y)),?_⟩) l).mono fun e w'⟨m,n⟩=>⟨m,n.pw h g (gm s c h.dok fun b=>gE h.dok s 2 b) h.good.addCommit⟩
 apply LK;intro y;exact i b z (g b (.inr (.inl y)))
theorem I3.pw{t w w':World}{n S:Nat->Prop}{rs f:Nat->Nat}{d q p:Nat}{D:Dk}{s:St}{x:Ix}{r:Dk×Ix×Nat}{e:Ending}(h:PW t w S rs f d q p D s x)(c:∀b,S b∨rs b≠0∨f b≠0->n b)(a:I3 w S (fun _=>False) f d p r e w')(I:r.1.Ok)(G:G0 r.2.1)(H:Ch.Bx r.2.1.links):vG t w n d q p r.1 s r.2.1 w':=by
 obtain⟨-,S',K,J,E,u,g,v,A,j,B,l⟩:=a;obtain⟨L,C,h1⟩:=h.st;obtain⟨N,M,h2⟩:=h.ix;have O:=h.tw.size;have o:∀b,rs b≠0->b<w.heap.size:=h1.bnd;have m:f p≠0:=by rw[h2.r1];decide
 refine⟨⟨S',rs,K,⟨u,I,fun b z=>⟨?_,v b z⟩,⟨L,C,h1.turned l fun b z y=>?_⟩,h.good,⟨J,E,A⟩,G,H,h.b1,fun b z=>?_,fun b z=>⟨?_,B b z⟩,fun b z=>?_,h.tw.comp l fun i F z=>?_⟩,fun b z=>?_⟩,l.mono fun b _ z=>c b (z.elim .inl fun z=>.inr (.inr (z▸m)))⟩
 ·rcases g b z with y|y
  ·exact(h.sb b y).1
  ·omega
 ·rcases y with y|y
  ·exact z (h.d1 b y).1
  ·rw[y]at z;exact m (h.d2 p z)
 ·rcases j b z with y|y|y
  ·exact h.b2 b y
  ·exact y.elim
  ·omega
 ·rcases g b z with y|y
  ·exact(h.d1 b y).1
  ·apply LK;intro k;have:=o b k;omega
 ·apply LK;intro k;rcases j b k with y|y|y
  ·exact y (h.d2 b z)
  ·exact y.elim
  ·have:=o b z;omega
 ·rcases z with z|z|z
  ·exact z
  ·have:=(h.sb i z).1;omega
  ·rw[z]at F;have:=h.b2 p m;omega
 ·rcases z with z|z|z
  ·exact(g b z).imp (fun y=>c b (.inl y)) id
  ·exact .inl (c b (.inr (.inl z)))
  ·rcases j b z with y|y|y
   ·exact .inl (c b (.inr (.inr y)))
   ·exact y.elim
   ·exact .inr y
theorem og{a w:World}{c:Nat->Prop}{d q p:Nat}{D:Dk}{s:St}{x:Ix}(h:J4 a w c d q p D s x)(tab:∀W,TF a W->Ch.jr W∧Ch.ia W)(f:R7 D 800000000)(g:I2)(u:g.seed<4294967296)(m:(D6 D x s g).2.2=0)(k:¬(s.commits.length:Int)=x.len)(j:¬8<=x.links.length)(n:Ch.Bx (D6 D x s g).2.1.links):
  CZ 18 #[pt p,.iface 34 (pt q),J3 g] w fun e w'=>e=.returned (.int .i64 ((D6 D x s g).2.2:Nat))∧vG a w c d q p (D6 D x s g).1 s (D6 D x s g).2.1 w':=by
 obtain⟨S,rs,v,h,o⟩:=h;obtain⟨E,A,h1⟩:=h.st;obtain⟨C,B,h2⟩:=h.ix;have r:v p≠0:=by rw[h2.r1];decide
 refine(pQ h.disk h.dok f (fun b z=>(h.sb b z).2) h1 h.good h2 h.iok h.low (fun b z=>(h.d1 b z).2) g u m k j fun W t=>tab W (h.tw.comp t fun i l z=>?_)).mono fun e w' y=>⟨y.1,y.pw h o (sp f h.dok x s g).2.1 (uU h.iok s g) n⟩
 rcases z with z|z|z
 ·exact z
 ·have:=(h.sb i z).1;omega
 ·rw[z]at l;have:=h.b2 p r;omega
structure DW (w0 w:World) (S:Nat->Prop) (rs rx:Nat->Nat) (v a y:Nat) (D:Dk) (s:St) (x:Ix):Prop where
 disk:G9 w S v D
 sb:∀b,S b->w0.heap.size<=b∧b<w.heap.size
 st:∃tv cv,F4 78 w rs a (pt v) tv cv s
 ix:∃lv gv,jH w rx y (pt v) lv gv x∧(x=noIx->lv=.slice none 0 0∧gv=.slice none 0 0)
 b1:∀b,rs b≠0->w0.heap.size<=b
 b2:∀b,rx b≠0->w0.heap.size<=b
 d1:∀b,S b->rs b=0∧rx b=0
 d2:∀b,rs b≠0->rx b=0
 tw:TF w0 w
def gu(e w:World)(d:Nat->Prop)(v a y:Nat)(D:Dk)(s:St)(x:Ix):Prop:=∃S rs c,DW e w S rs c v a y D s x∧∀b,S b∨rs b≠0∨c b≠0->d b
theorem gu.turned{f w w':World}{d T:Nat->Prop}{v a y:Nat}{D:Dk}{s:St}{x:Ix}(h:gu f w d v a y D s x)(t:d7 T w w')(e:∀b,d b->¬T b)(k:∀b,T b->f.heap.size<=b):gu f w' d v a y D s x:=by obtain⟨S,rs,m,h,c⟩:=h;obtain⟨n,g,h1⟩:=h.st;obtain⟨l,j,h2,h3⟩:=h.ix;exact⟨S,rs,m,⟨h.disk.turned t fun b z=>e b (c b (.inl z)),fun b z=>⟨(h.sb b z).1,LC (h.sb b z).2 t.size⟩,⟨n,g,h1.turned t fun b z=>e b (c b (.inr (.inl z)))⟩,⟨l,j,h2.turned t (fun b z=>e b (c b (.inr (.inr z)))),h3⟩,h.b1,h.b2,h.d1,h.d2,h.tw.comp t fun i o z=>z.elim id fun z=>by have:=k i z;omega⟩,c⟩
theorem gu.bound{c w:World}{d:Nat->Prop}{v a y:Nat}{D:Dk}{s:St}{x:Ix}(h:gu c w d v a y D s x):gu c w (fun b=>d b∧c.heap.size<=b∧b<w.heap.size) v a y D s x:=by
 obtain⟨S,rs,f,h,e⟩:=h;refine⟨S,rs,f,h,fun b z=>⟨e b z,?_⟩⟩;obtain⟨k,g,h1⟩:=h.st;obtain⟨j,i,h2,h3⟩:=h.ix;rcases z with z|z|z
 ·exact h.sb b z
 ·exact⟨h.b1 b z,h1.bnd b z⟩
 ·exact⟨h.b2 b z,h2.bnd b z⟩
theorem J4.bound2{a w:World}{c:Nat->Prop}{d q p:Nat}{D:Dk}{s:St}{x:Ix}(h:J4 a w c d q p D s x):J4 a w (fun b=>c b∧a.heap.size<=b∧b<w.heap.size) d q p D s x:=by
 obtain⟨S,rs,f,h,e⟩:=h;refine⟨S,rs,f,h,fun b z=>⟨e b z,?_⟩⟩;obtain⟨k,g,h1⟩:=h.st;obtain⟨j,i,h2⟩:=h.ix;rcases z with z|z|z
 ·exact h.sb b z
 ·exact⟨h.b1 b z,h1.bnd b z⟩
 ·exact⟨h.b2 b z,h2.bnd b z⟩
def AB(c w:World)(b:Nat->Prop)(v a y:Nat)(D:Dk)(s:St)(x:Ix)(w':World):Prop:=gu c w' (Fe b w) v a y D s x∧d7 b w w'
theorem BG.dw{m w w':World}{j S:Nat->Prop}{rs d:Nat->Nat}{v a y:Nat}{D D':Dk}{s l:St}{x:Ix}(h:DW m w S rs d v a y D s x)(c:∀b,S b∨rs b≠0∨d b≠0->j b)(q:BG 78 (fun W S=>G9 W S v D') w S rs a (pt v) l w'):AB m w j v a y D' l x w':=by
 obtain⟨S',B,C,t,n,e,o,p,f,r,g⟩:=q;obtain⟨A,u,h2,h3⟩:=h.ix;have F:=h.tw.size;have hx:∀b,d b≠0->b<w.heap.size:=h2.bnd;refine⟨⟨S',B,d,⟨n,fun b z=>⟨?_,o b z⟩,⟨C,t,p⟩,⟨A,u,h2.turned g (fun b z y=>?_),h3⟩,fun b z=>?_,h.b2,fun b z=>⟨r b z,?_⟩,fun b z=>?_,h.tw.comp g fun i E z=>?_⟩,fun b z=>?_⟩,g.mono fun b _ z=>c b (z.imp id .inl)⟩
 ·rcases e b z with y|y
  ·exact(h.sb b y).1
  ·omega
 ·rcases y with y|y
  ·exact z (h.d1 b y).2
  ·exact z (h.d2 b y)
 ·rcases f b z with y|y
  ·exact h.b1 b y
  ·omega
 ·rcases e b z with y|y
  ·exact(h.d1 b y).2
  ·apply LK;intro k;have:=hx b k;omega
 ·rcases f b z with y|y
  ·exact h.d2 b y
  ·apply LK;intro k;have:=hx b k;omega
 ·rcases z with z|z|z
  ·exact z
  ·have:=(h.sb i z).1;omega
  ·have:=h.b1 i z;omega
 ·rcases z with z|z|z
  ·exact(e b z).imp (fun y=>c b (.inl y)) id
  ·exact(f b z).imp (fun y=>c b (.inr (.inl y))) id
  ·exact .inl (c b (.inr (.inr z)))
theorem vI{g w:World}{c S0:Nat->Prop}{v a y:Nat}{D:Dk}{s:St}{x:Ix}{ea:Option Addr}{cap:Nat}{t:List Ent}(h:gu g w c v a y D s x)(l:D.Ok)(k:H1 w S0 ea cap t)(f:∀b,S0 b->¬c b)(m:t.length<=1000000000)(i:s.dead=false)(j:¬65536<=s.trees.length)(n:∀b,O9 t=.ok b->(writeS D s 1 b).2.2=0):
  CZ 84 #[pt a,.slice ea t.length cap] w fun e w'=>e=.returned (.tuple #[.int .i64 (addTree D s t).2.2.1,.int .i64 ((addTree D s t).2.2.2:Nat)])∧AB g w c v a y (addTree D s t).1 (addTree D s t).2.1 x w':=by
 obtain⟨S,rs,r,h,d⟩:=h;obtain⟨u,q,h1⟩:=h.st;refine(pG h.disk l h1 (fun b z=>(h.d1 b z).1) (fun b z=>(h.sb b z).2) k (fun b z=>⟨fun y=>f b z (d b (.inl y)),?_⟩) m i j n).mono fun e w'⟨o,p⟩=>⟨o,p.dw h d⟩
 apply LK;intro y;exact f b z (d b (.inr (.inl y)))
theorem pS{i w:World}{d S0:Nat->Prop}{v a y:Nat}{D:Dk}{s:St}{x:Ix}{ea:Option Addr}{cap:Nat}{c:Cm}(h:gu i w d v a y D s x)(m:D.Ok)(l:p7 w S0 ea cap c.par)(g:∀b,S0 b->¬d b)(n:c.par.length<=1000000000)(j:s.dead=false)(k:¬65536<=s.commits.length)(o:∀b,U0 c=.ok b->(writeS D s 2 b).2.2=0):
  CZ 87 #[pt a,kJ ea cap c] w fun e w'=>e=.returned (.tuple #[.int .i64 (addCommit D s c).2.2.1,.int .i64 ((addCommit D s c).2.2.2:Nat)])∧AB i w d v a y (addCommit D s c).1 (addCommit D s c).2.1 x w':=by
 obtain⟨S,rs,t,h,f⟩:=h;obtain⟨u,r,h1⟩:=h.st;refine(mr h.disk m h1 (fun b z=>(h.d1 b z).1) (fun b z=>(h.sb b z).2) l (fun b z=>⟨fun y=>g b z (f b (.inl y)),?_⟩) n j k o).mono fun e w'⟨p,q⟩=>⟨p,q.dw h f⟩
 apply LK;intro y;exact g b z (f b (.inr (.inl y)))
structure BW (w0 w:World) (O1 O2:Nat->Prop) (r d q p v a y:Nat) (D:Dk) (s:St) (x:Ix):Prop where
 pw:J4 w0 w O1 d q p D s x
 dw:gu w0 w O2 v a y D s x
 dis:∀b,O1 b->¬O2 b
 n1:¬O1 r
 n2:¬O2 r
 o1:∀b,O1 b->w0.heap.size<=b∧b<w.heap.size
 o2:∀b,O2 b->w0.heap.size<=b∧b<w.heap.size
 lr:w0.heap.size<=r
 rb:w.heap[r]?=some (.cells #[pt d,pt q,pt p,pt v,pt a,pt y] 39)
def eH(e w:World)(r d q p v a y:Nat)(D:Dk)(s:St)(x:Ix):Prop:=∃b c,BW e w b c r d q p v a y D s x
theorem eH.still{c w w':World}{r d q p v a y:Nat}{D:Dk}{s:St}{x:Ix}(h:eH c w r d q p v a y D s x)(t:TF w w'):eH c w' r d q p v a y D s x:=by obtain⟨e,f,h⟩:=h;exact⟨e,f,⟨h.pw.still t,h.dw.turned t (fun _ _ z=>z) fun _ z=>z.elim,h.dis,h.n1,h.n2,fun b z=>⟨(h.o1 b z).1,LC (h.o1 b z).2 t.size⟩,fun b z=>⟨(h.o2 b z).1,LC (h.o2 b z).2 t.size⟩,h.lr,j9 h.rb t id⟩⟩
theorem BW.both{c w l W w2:World}{j e:Nat->Prop}{r d q p v a y:Nat}{D D':Dk}{s f:St}{x i:Ix}(h:BW c w j e r d q p v a y D s x)(t:vG c w j d q p D' f i l)(g:TF l W)(u:AB c W e v a y D' f i w2):eH c w2 r d q p v a y D' f i:=by
 obtain⟨m,u1⟩:=t;obtain⟨n,u2⟩:=u;have A:=u1.size;have B:=g.size;have C:=u2.size;have lr:=i6 h.rb
 have o:=((m.still g).bound2).turned u2 (fun b z y=>by
  rcases z.1 with k|k
  ·exact h.dis b k y
  ·have:=(h.o2 b y).2;omega) fun b z=>(h.o2 b z).1
 refine⟨_,fun b=>(Fe e W b∧c.heap.size<=b∧b<w2.heap.size),o,n.bound,fun b z y=>?_,fun z=>?_,fun z=>?_,fun b z=>⟨z.2.1,by omega⟩,fun b z=>z.2,h.lr,?_⟩
 ·obtain⟨k1,k2,k3⟩:=z;rcases k1 with k1|k1<;>rcases y.1 with k4|k4
  ·exact h.dis b k1 k4
  ·omega
  ·have:=(h.o2 b k4).2;omega
  ·omega
 ·rcases z.1 with k|k
  ·exact h.n1 k
  ·omega
 ·rcases z.1 with k|k
  ·exact h.n2 k
  ·omega
 ·exact j9 (j9 (j9 h.rb u1 h.n1) g id) u2 h.n2
def W8(w:World)(S SR:Nat->Prop)(v y:Nat)(D':Dk)(e:Ix)(w':World):Prop:=∃S' a d c,G9 w' S' v D'∧(∀b,S' b->S b∨w.heap.size<=b)∧(∀b,S' b->b<w'.heap.size)∧jH w' a y (pt v) d c e∧(∀b,a b≠0->b=y∨SR b∨w.heap.size<=b)∧(∀b,S' b->a b=0)∧d7 (fun b=>S b∨b=y) w w'
open Classical in
theorem BV{w A c wc f j H:World}{S SR:Nat->Prop}{v y n E:Nat}{D':Dk}{t ga ra:Option Addr}{u gc rc:Nat}{g:Gr}(G:TF w A)(F:TF A c)(tc:TF c wc)(B:∀b,S b->b<w.heap.size)(R:y<w.heap.size∧¬S y)(d:∀b,SR b->b<w.heap.size∧¬S b∧b≠y)
  (V:I1 wc S v D' f) (N:Sl wc (fun b=>c.heap.size<=b) 120 3 (.slice t 1 u) [.int .i64 0,.int .i64 n,.int .u32 E] 1) (Q:N0 w SR ra rc g.rows) (M:iF g) (I:j.heap[y]?=some (.cells #[pt v,.slice t 1 u,.slice ga 1 gc] 178))
  (K:Sl j (fun b=>f.heap.size<=b) 123 6 (.slice ga 1 gc) [.int .i64 g.base,.int .i64 g.h,.int .i64 g.p,.int .i64 g.m,.int .u32 g.seed,.slice ra g.rows.length rc] 1) (o:d7 (fun b=>b=y) f j) (e:TF j H):
  W8 w S SR v y D' ⟨[(0,(n:Int),E)],[g]⟩ H:=by
 obtain⟨S',r1,r2,r3,s⟩:=V;have z0:=G.size;have z1:=F.size;have z2:=tc.size;have z3:=s.size;have z4:=o.size;have z5:=e.size;have tw:TF w wc:=G.tr (F.trans tc fun _ _ z=>z);have D:¬S' y:=fun z=>by
  rcases r2 y z with k|k
  ·exact R.2 k
  ·omega
 have O:=N.bound;have L:=K.bound;refine⟨S',fun b=>if b=y then 1 else if c.heap.size<=b∧b<wc.heap.size then 2 else if f.heap.size<=b∧b<j.heap.size then 3 else if SR b then 4 else 0,.slice t 1 u,.slice ga 1 gc,(r1.turned o fun b z k=>D (k▸z)).turned e fun _ _ z=>z,fun b z=>?_,fun b z=>?_,⟨?_,?_,?_,?_,fun b a=>?_⟩,fun b a=>?_,fun b z=>?_,?_⟩
 ·exact(r2 b z).imp id fun k=>by omega
 ·have:=r3 b z;omega
 ·simp
 ·exact j9 I e id
 ·refine((O.turned s fun b z k=>?_).turned o fun b z k=>?_).turned e (fun _ _ z=>z)|>.widen fun b z=>?_
  ·have:=B b k;have r:c.heap.size<=b:=z.1;omega
  ·have r:c.heap.size<=b:=z.1;have X:b=y:=k;omega
  ·have r:c.heap.size<=b:=z.1;have l:¬b=y:=by omega
   simp only[l,if_false];rw[if_pos ⟨r,z.2⟩]
 ·refine⟨_,(L.turned e fun _ _ z=>z).widen fun b z=>?_,fun i J C=>?_⟩
  ·have r:f.heap.size<=b:=z.1;have l:¬b=y:=by omega
   have P:¬(c.heap.size<=b∧b<wc.heap.size):=by omega
   simp only[l,P,if_false];rw[if_pos ⟨r,z.2⟩]
  ·rcases i with _|i
   ·obtain rfl:g=J:=by simpa using C
    refine⟨ra,rc,rfl,rfl,rfl,rfl,rfl,rfl,M,?_⟩;have h1:=Q.turned (tw.mono fun _ _ z=>z.elim:d7 S w wc) (fun b z=>(d b z).2.1);have h2:=h1.turned s fun b z=>(d b z).2.1
    have h3:=(h2.turned o fun b z=>(d b z).2.2).turned e fun _ _ z=>z
    refine h3.mono fun b z=>?_
    obtain⟨Y,Z,U⟩:=d b z;have n2:¬(c.heap.size<=b∧b<wc.heap.size):=by omega
    have x:¬(f.heap.size<=b∧b<j.heap.size):=by omega
    simp only[U,n2,x,if_false];rw[if_pos z]
   ·simp at C
 ·have W:=i6 I
  try simp only at a
  split at a
  ·rename_i k;omega
  split at a
  ·omega
  split at a
  ·omega
  split at a
  ·rename_i k;have:=(d b k).1;omega
  ·simp at a
 ·try simp only at a
  split at a
  ·rename_i k;exact .inl k
  split at a
  ·rename_i k;exact .inr (.inr (by omega))
  split at a
  ·rename_i k;exact .inr (.inr (by omega))
  split at a
  ·rename_i k;exact .inr (.inl k)
  ·simp at a
 ·have a:=r3 b z;have l:¬b=y:=fun k=>D (k▸z)
  have n2:¬(c.heap.size<=b∧b<wc.heap.size):=fun k=>by
   rcases r2 b z with q|q
   ·have:=B b q;omega
   ·omega
  have x:¬(f.heap.size<=b∧b<j.heap.size):=by omega
  have T:¬SR b:=fun k=>by
   rcases r2 b z with q|q
   ·exact(d b k).2.1 q
   ·have:=(d b k).1;omega
  simp only[l,n2,x,T,if_false]
 ·exact((tw.mono fun _ _ z=>z.elim).tr (s.mono fun _ _ z=>.inl z)).tr ((o.mono fun _ _ z=>.inr z).trans (e.mono fun _ _ z=>z.elim) fun _ _ z=>z)
end Go.Proofs.YtofcogekgcgjhaaGreatDoor
