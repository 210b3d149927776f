/- Packed. -/
import Derived.Test.YtofcogekgcgjhaaGreatDoorZzbt
set_option maxRecDepth 100000
set_option maxHeartbeats 8000000
namespace Go.Proofs.YtofcogekgcgjhaaGreatDoor
open Go.RowKit Go.Mine Go.Mine.Ac Go.Proofs.Tryz
theorem W8.rebase{w a w':World}{S SR:Nat->Prop}{v y:Nat}{D':Dk}{c:Ix}(h:W8 a S SR v y D' c w')(t:TF w a)(i:∀b,SR b->w.heap.size<=b):W8 w S (fun _=>False) v y D' c w':=by obtain⟨S',l,j,d,h1,h2,h3,h4,e,f,g⟩:=h;have m:=t.size;exact⟨S',l,j,d,h1,fun b z=>(h2 b z).imp id fun k=>by omega,h3,h4,fun b z=>(e b z).imp id fun k=>.inr (k.elim (i b) fun k=>by omega),f,(t.mono fun _ _ z=>z.elim).tr g⟩
theorem qj{w:World}{rs Y:Nat->Nat}{a y:Nat}{R Z Q S V T:Value}{s:St}{x:Ix}(h:F4 78 w rs a R Z Q s)(hx:jH w Y y S V T x)(v:G0 x)(E:x.len<=s.commits.length)(g:I2)(C:¬n0 g∨(s.commits.length:Int)=x.len):
  CZ 50 #[pt y,pt a,J3 g] w (RT (.int .i64 (if n0 g then 0 else 1)) w):=by
 obtain⟨B,u⟩:∃B:Ending->World->Prop,B=(RT (.int .i64 (if n0 g then 0 else 1)) w):=⟨_,rfl⟩;have G:Hid (B=(RT (.int .i64 (if n0 g then 0 else 1)) w)):=u;rw[<-u];obtain⟨b,t⟩:=EX (w.alloc (.cells #[.int .i64 g.h,.int .i64 g.p,.int .i64 g.m,.int .u32 g.seed] 24));have F:Hid (b=w.alloc (.cells #[.int .i64 g.h,.int .i64 g.p,.int .i64 g.m,.int .u32 g.seed] 24)):=t;obtain⟨c,d⟩:=A0 (w:=w) (.cells #[.int .i64 g.h,.int .i64 g.p,.int .i64 g.m,.int .u32 g.seed] 24);rw[<-t]at c d;have J:Hid (TF w b):=c;have n:Hid (CZ 110 #[pt y,pt a,.agg #[.int .i64 g.h,.int .i64 g.p,.int .i64 g.m,.int .u32 g.seed]] b (RT (.int .i64 (if n0 g then 0 else 1)) b)):=i7 (kC (h.turned c fun _ _ z=>z) (hx.turned c fun _ _ z=>z) v E g);have A:Hid (∀W,TF b W->CZ 106 #[pt y] W (RT (.int .i64 x.len) W)):=i7 fun W q=>gF (hx.turned (c.tr q) fun _ _ z=>z) v
 obtain⟨K,L,D,-,-⟩:=h.commits.choose_spec.1.value;obtain⟨N,r⟩:=EX s.commits.length;have H:Hid (∀W,TF b W->W.cell? ⟨a,2,none⟩=some (.slice K N L)):=i7 fun W q=>by have:=g9 (j9 (j9 h.blk c id) q id) 2 _ rfl;rw[r,<-D];exact this
 have U:a<b.heap.size:=LC (i6 h.blk) c.size;have v0:b.cell? ⟨w.heap.size,0,none⟩=some (.int .i64 g.h):=g9 d 0 _ rfl;have v1:b.cell? ⟨w.heap.size,1,none⟩=some (.int .i64 g.p):=g9 d 1 _ rfl;have v2:b.cell? ⟨w.heap.size,2,none⟩=some (.int .i64 g.m):=g9 d 2 _ rfl;have v3:b.cell? ⟨w.heap.size,3,none⟩=some (.int .u32 g.seed):=g9 d 3 _ rfl;have v4:=i6 d;by_cases k:n0 g
 ·have j:Hid ((if n0 g then(0:Int)else 1)=0):=i7 (if_pos k);have M:(N:Int)=x.len:=by rw[r];exact C.resolve_left (fun z=>z k)
  rw[j.o]at n;rw[<-M]at A;clear u t c d h hx v E C k r D M;go_enter func50,ntmps50;go_wp2_with fail;rw[<-F.o];go_upto_region 2 with(go_fit n.o;rintro e i⟨rfl,l⟩;have f:Hid (TF b i):=i7 l;clear l)
  have aa:a<i.heap.size:=LC U f.o.size;have O:=i7 (H.o i.drew (f.o.draw))
  go_region_held3 (fun W=>W.cell? ⟨a,2,none⟩=some (.slice K N L))
   (first|(with_reducible exact O.o)|(with_reducible exact P.o)|go_keep)
   (first
    |(go_fit(A.o i.drew f.o.draw);rintro e w2⟨rfl,X⟩;have I:TF b w2:=f.o.draw.tr X;have P:=i7 (H.o w2 I))
    |fail)
  go_wp2;rw[G.o,j.o];exact⟨rfl,J.o.tr I⟩
 ·have j:Hid ((if n0 g then(0:Int)else 1)=1):=i7 (if_neg k);rw[j.o]at n;clear u t c d h hx v E C k r D A;go_enter func50,ntmps50;go_wp2_with fail;rw[<-F.o];go_upto_region 2 with(go_fit n.o;rintro e i⟨rfl,l⟩;have f:Hid (TF b i):=i7 l;clear l)
  go_quiet (fail);go_wp2;rw[G.o,j.o];exact⟨rfl,(J.o.tr f.o).drawN _⟩
theorem qk{w:World}{S:Nat->Prop}{rs rx:Nat->Nat}{v a y q:Nat}{L T C:ByteArray}{tv cv:Value}{s:St}(tab:∀W,d7 (fun b=>S b∨b=y) w W->Ch.jr W)(hD:G9 w S v (I4 q L))(ai:(I4 q L).Ok)(R:∀b,S b->b<w.heap.size)(A:F4 78 w rs a (pt v) tv cv s)(U:B9 s)
  (hx:jH w rx y (pt v) (.slice none 0 0) (.slice none 0 0) noIx) (am:¬S y) (g:I2) (n:n0 g) (V:g.seed<4294967296) (hn:0<s.commits.length) (hT:iV (D9 s g 0 [])=.tuple #[.string T,.int .i64 0]) (hC:Ch.dE [(0,(s.commits.length:Int),Crc.sum (p6 T))]=.tuple #[.string C,.int .i64 0]) (ad:T.size<=1000000000) (ab:C.size<=1000000000) (ak:L.size+T.size+C.size<=q):
  CZ 50 #[pt y,pt a,J3 g] w fun e w'=>e=.returned (.int .i64 0)∧W8 w S (fun _=>False) v y (jL q L T C) ⟨[(0,(s.commits.length:Int),Crc.sum (p6 T))],[D9 s g 0 []]⟩ w':=by
 obtain⟨M,Q⟩:∃M:Ending->World->Prop,M=fun e w'=>e=.returned (.int .i64 0)∧W8 w S (fun _=>False) v y (jL q L T C) ⟨[(0,(s.commits.length:Int),Crc.sum (p6 T))],[D9 s g 0 []]⟩ w':=⟨_,rfl⟩
 have HZ:Hid (M=fun e w'=>e=.returned (.int .i64 0)∧W8 w S (fun _=>False) v y (jL q L T C) ⟨[(0,(s.commits.length:Int),Crc.sum (p6 T))],[D9 s g 0 []]⟩ w'):=Q;rw[<-Q];obtain⟨d,P⟩:=EX (w.alloc (.cells #[.int .i64 g.h,.int .i64 g.p,.int .i64 g.m,.int .u32 g.seed] 24));have av:Hid (d=w.alloc (.cells #[.int .i64 g.h,.int .i64 g.p,.int .i64 g.m,.int .u32 g.seed] 24)):=P;obtain⟨l,H⟩:=A0 (w:=w) (.cells #[.int .i64 g.h,.int .i64 g.p,.int .i64 g.m,.int .u32 g.seed] 24);rw[<-P]at l H;have TV:Hid (TF w d):=l;have an:Hid (CZ 110 #[pt y,pt a,.agg #[.int .i64 g.h,.int .i64 g.p,.int .i64 g.m,.int .u32 g.seed]] d (RT (.int .i64 0) d)):=i7 (by have:=kC (h:=A.turned l fun _ _ z=>z) (hx:=hx.turned l fun _ _ z=>z) noIx_ok (by show Ch.totLn []<=_;simp[Ch.totLn]) g;rw[if_pos n]at this;exact this);have ao:Hid (∀W,TF d W->CZ 106 #[pt y] W (RT (.int .i64 0) W)):=i7 fun W t=>gF (hx.turned (l.tr t) fun _ _ z=>z) noIx_ok
 obtain⟨ca,cc,ah,-,-⟩:=A.commits.choose_spec.1.value;obtain⟨N,O⟩:=EX s.commits.length;have KA:Hid (∀W,TF d W->W.cell? ⟨a,2,none⟩=some (.slice ca N cc)):=i7 fun W t=>by have:=g9 (j9 (j9 A.blk l id) t id) 2 _ rfl;rw[O,<-ah];exact this
 have KY:Hid (∀W,TF d W->W.cell? ⟨y,1,none⟩=some (.slice none 0 0)∧W.cell? ⟨y,2,none⟩=some (.slice none 0 0)∧y<W.heap.size):=i7 fun W t=>by have:=j9 (j9 hx.blk l id) t id;exact⟨g9 this 1 _ rfl,g9 this 2 _ rfl,i6 this⟩
 have E:Hid (∀W,TF d W->W.cell? ⟨w.heap.size,0,none⟩=some (.int .i64 g.h)∧W.cell? ⟨w.heap.size,1,none⟩=some (.int .i64 g.p)∧W.cell? ⟨w.heap.size,2,none⟩=some (.int .i64 g.m)∧W.cell? ⟨w.heap.size,3,none⟩=some (.int .u32 g.seed)∧W.cell? ⟨y,1,none⟩=some (.slice none 0 0)∧W.cell? ⟨y,2,none⟩=some (.slice none 0 0)):=i7 fun W t=>by have I:=j9 H t id;obtain⟨k1,k2,-⟩:=KY.o W t;exact⟨g9 I 0 _ rfl,g9 I 1 _ rfl,g9 I 2 _ rfl,g9 I 3 _ rfl,k1,k2⟩
 have aw:a<d.heap.size:=LC (i6 A.blk) l.size;have ay:=i6 H;have au:Hid (∀W,TF d W->CZ 112 #[pt a,.agg #[.int .i64 g.h,.int .i64 g.p,.int .i64 g.m,.int .u32 g.seed],.slice none 0 0] W (fh W (E4 s g s.commits.length []))):=i7 fun W t=>yI (A.turned (l.tr t) fun _ _ z=>z) U g n V
 have aq:Hid ((E4 s g s.commits.length []).length=N):=i7 (by rw[M0,O]);have ap:Hid (∀(W:World)(ra:Option Addr)(rc:Nat)(u x:Nat->Prop),TF d W->N0 W (fun b=>u b∨x b) ra rc (E4 s g s.commits.length [])->(∀b,u b->d.heap.size<=b)->(∀b,x b->d.heap.size<=b)->(∀b,u b∨x b->b<W.heap.size)->CZ 111 #[pt y,.agg #[.int .i64 0,.int .i64 g.h,.int .i64 g.p,.int .i64 g.m,.int .u32 g.seed,.slice ra (E4 s g s.commits.length []).length rc],.slice none 0 0,.slice none 0 0] W fun e w'=>e=.returned (.int .i64 0)∧W8 w S (fun _=>False) v y (jL q L T C) ⟨[(0,(s.commits.length:Int),Crc.sum (p6 T))],[D9 s g 0 []]⟩ w'):=i7 fun W ra rc u x t hr h2 h3 h4=>by
  have tw:TF w W:=l.tr t;have hz:=l.size;have aB:=i6 hx.blk;have aC:=tw.size
  have:=yP (g:=D9 s g 0 []) (ra:=ra) (rc:=rc) (fun W' t'=>tab W' ((tw.mono fun _ _ z=>z.elim).tr t')) (hD.turned tw fun _ _ z=>z) ai (fun b z=>LC (R b z) tw.size) (j9 hx.blk tw id) am (SR:=fun b=>u b∨x b) (by
   show N0 W _ ra rc (E4 s g (s.commits.length-0) [])
   exact hr) (fun b z=>⟨h4 b z,fun k=>by
    have:=R b k;rcases z with z|z
    ·have:=h2 b z;omega
    ·have:=h3 b z;omega,fun k=>by
    rcases z with z|z
    ·have:=h2 b z;omega
    ·have:=h3 b z;omega⟩) ⟨⟨by show(-9223372036854775808:Int)<=0;decide,by show(0:Int)<=9223372036854775807;decide⟩,⟨by have:=n.1;show(-9223372036854775808:Int)<=g.h;omega,by have:=n.2.1;show g.h<=9223372036854775807;omega⟩,⟨by have:=n.2.2.1;show(-9223372036854775808:Int)<=g.p;omega,by have:=n.2.2.2.1;show g.p<=9223372036854775807;omega⟩,⟨by have:=n.2.2.2.2.1;show(-9223372036854775808:Int)<=g.m;omega,by have:=n.2.2.2.2.2;show g.m<=9223372036854775807;omega⟩,V⟩ (by show(E4 s g (s.commits.length-0) []).length<=65536;rw[M0];have:=U.commits;omega) hT (by show Ch.dE [(0,((E4 s g (s.commits.length-0) []).length:Int),Crc.sum (p6 T))]=_;rw[M0];exact hC) ad ab ak
  refine this.mono fun e w'⟨x1,x2⟩=>⟨x1,?_⟩
  have x3:=x2.rebase tw (fun b z=>by
    rcases z with z|z
    ·have:=h2 b z;omega
    ·have:=h3 b z;omega)
  have e1:((D9 s g 0 []).rows.length:Int)=(s.commits.length:Int):=by show((E4 s g (s.commits.length-0) []).length:Int)=_;rw[M0];rfl
  rw[e1]at x3;exact x3
 have HN:Hid (0<N):=i7 (by omega);generalize E4 s g s.commits.length []=RR at *;have e0:((N:Int)==0)=false:=by simp;omega
 obtain⟨v0,v1,v2,v3,-,-⟩:=E.o d TQ;clear Q P l H hD ai R A U hx am n V hn hT hC ad ab ak ah O tab;go_enter func50,ntmps50;go_wp2_with fail;rw[<-av.o];go_upto_region 2 with(go_fit an.o;rintro e J⟨rfl,q1⟩;have F:Hid (TF d J):=i7 q1;clear q1)
 have ax:a<J.heap.size:=LC aw F.o.size;have Ka:=i7 (KA.o J.drew (F.o.draw))
 go_region_held3 (fun W=>W.cell? ⟨a,2,none⟩=some (.slice ca N cc))
  (first|(with_reducible exact Ka.o)|(with_reducible exact Kb.o)|go_keep)
  (first
   |(go_fit(ao.o J.drew F.o.draw);rintro e w2⟨rfl,q2⟩;have G:TF d w2:=F.o.draw.tr q2;have Kb:=i7 (KA.o w2 G))
   |fail)
 obtain⟨y1,y2,y3⟩:=KY.o w2 G;have Q2:Hid (TF d w2):=i7 G;clear G v0 v1 v2 v3;go_wp2;go_loopg[8,9] 0 (fun k kv iv wr=>k=0∧kv=.slice none 0 0∧iv=.int .i64 0∧wr=w2)
 case atStart=>exact⟨rfl,rfl,rfl,rfl⟩
 case round=>
  obtain⟨rfl,rfl,rfl,rfl⟩:=hrel;clear y1;go_upto_region 14 with(fail)
  have r:Hid (TF d wr.drew):=i7 Q2.o.draw;have aa:=i7 (au.o wr.drew r.o);unfold fh at aa;have aA:=LC ay Q2.o.size;clear ax y2;refine sV 17 (fun W=>W.cell? ⟨w.heap.size,0,none⟩=some (.int .i64 g.h)∧W.cell? ⟨w.heap.size,1,none⟩=some (.int .i64 g.p)∧W.cell? ⟨w.heap.size,2,none⟩=some (.int .i64 g.m)∧W.cell? ⟨w.heap.size,3,none⟩=some (.int .u32 g.seed)∧W.cell? ⟨y,1,none⟩=some (.slice none 0 0)∧W.cell? ⟨y,2,none⟩=some (.slice none 0 0)) (by kernel_rfl) ?_;have f:=E.o _ r.o;refine p4 (i:=0) (o:={dst:=some 75,op:=Op.move (Operand.tmp 0),type:=37,pos:= "ref.go:124",after:=#[],guard:=none}) (v:=?_) rfl (by kernel_rfl) (by kernel_rfl) (by kernel_rfl) (by decide) (fun _ _ _ h=>h) (Or.inl ⟨by rfl,?_⟩) (.inr f) ?_
  rotate_left
  ·intro j c;go_simp;try with_reducible rfl
  try simp only[Act.put,List.setIfInBounds_toArray,List.set_cons_zero,List.set_cons_succ]
  refine p4 (i:=1) (o:={dst:=some 76,op:=Op.move (Operand.tmp 8),type:=41,pos:= "ref.go:124",after:=#[],guard:=none}) (v:=?_) rfl (by kernel_rfl) (by kernel_rfl) (by kernel_rfl) (by decide) (fun _ _ _ h=>h) (Or.inl ⟨by rfl,?_⟩) (.inr f) ?_
  rotate_left
  ·intro j c;go_simp;try with_reducible rfl
  try simp only[Act.put,List.setIfInBounds_toArray,List.set_cons_zero,List.set_cons_succ]
  refine p4 (i:=2) (o:={dst:=some 77,op:=Op.call {callee:=Callee.builtin Builtin.len,args:=#[Operand.tmp 76],argTypes:=#[41]},type:=3,pos:= "ref.go:124",after:=#[{on:=1,ground:=Ground.data}],guard:=none}) (v:=?_) rfl (by kernel_rfl) (by kernel_rfl) (by kernel_rfl) (by decide) (fun _ _ _ h=>h) (Or.inl ⟨by rfl,?_⟩) (.inr f) ?_
  rotate_left
  ·intro j c;go_simp;try with_reducible rfl
  try simp only[Act.put,List.setIfInBounds_toArray,List.set_cons_zero,List.set_cons_succ]
  refine X5 (i:=3) (o:={dst:=some 78,op:=Op.load 24 (Operand.tmp 5),type:=24,pos:= "ref.go:124",after:=#[],guard:=none}) (v:=?_) rfl (by kernel_rfl) (by kernel_rfl) (by kernel_rfl) (.inr ⟨8,by kernel_rfl,by kernel_rfl,by kernel_rfl⟩) (by kernel_rfl) (fun _ _ _ h=>h) (Or.inl ⟨by rfl,?_⟩) f ?_
  rotate_left
  ·intro j c;(try dsimp only at c);obtain⟨Y,Z,s2,s3,s4,s5⟩:=c;go_simp;try with_reducible rfl
  try simp only[Act.put,List.setIfInBounds_toArray,List.set_cons_zero,List.set_cons_succ]
  refine p4 (i:=4) (o:={dst:=some 79,op:=Op.move (Operand.tmp 1),type:=36,pos:= "ref.go:124",after:=#[],guard:=none}) (v:=?_) rfl (by kernel_rfl) (by kernel_rfl) (by kernel_rfl) (by decide) (fun _ _ _ h=>h) (Or.inl ⟨by rfl,?_⟩) (.inr f) ?_
  rotate_left
  ·intro j c;go_simp;try with_reducible rfl
  try simp only[Act.put,List.setIfInBounds_toArray,List.set_cons_zero,List.set_cons_succ]
  refine vF (i:=5) (o:={dst:=some 80,op:=Op.load 24 (Operand.tmp 5),type:=24,pos:= "ref.go:124",after:=#[],guard:=none}) (v:=?_) rfl (by kernel_rfl) (by kernel_rfl) (by kernel_rfl) ⟨8,7,by kernel_rfl,by kernel_rfl,by kernel_rfl,by kernel_rfl,by kernel_rfl⟩ (by kernel_rfl) (fun _ _ _ h=>h) (Or.inl ⟨by rfl,?_⟩) f ?_
  rotate_left
  ·intro j c;(try dsimp only at c);obtain⟨Y,Z,s2,s3,s4,s5⟩:=c;go_simp;try with_reducible rfl
  try simp only[Act.put,List.setIfInBounds_toArray,List.set_cons_zero,List.set_cons_succ]
  refine p4 (i:=6) (o:={dst:=some 81,op:=Op.move (Operand.tmp 8),type:=41,pos:= "ref.go:124",after:=#[],guard:=none}) (v:=?_) rfl (by kernel_rfl) (by kernel_rfl) (by kernel_rfl) (by decide) (fun _ _ _ h=>h) (Or.inl ⟨by rfl,?_⟩) (.inr f) ?_
  rotate_left
  ·intro j c;go_simp;try with_reducible rfl
  try simp only[Act.put,List.setIfInBounds_toArray,List.set_cons_zero,List.set_cons_succ]
  refine p4 (i:=9) (o:={dst:=some 84,op:=Op.move (Operand.tmp 0),type:=37,pos:= "ref.go:124",after:=#[],guard:=none}) (v:=?_) rfl (by kernel_rfl) (by kernel_rfl) (by kernel_rfl) (by decide) (fun _ _ _ h=>h) (Or.inl ⟨by rfl,?_⟩) (.inr f) ?_
  rotate_left
  ·intro j c;go_simp;try with_reducible rfl
  try simp only[Act.put,List.setIfInBounds_toArray,List.set_cons_zero,List.set_cons_succ]
  refine p4 (i:=10) (o:={dst:=some 85,op:=Op.nilCheck (Operand.tmp 84),type:=0,pos:= "ref.go:124",after:=#[{on:=9,ground:=Ground.data}],guard:=none}) (v:=?_) rfl (by kernel_rfl) (by kernel_rfl) (by kernel_rfl) (by decide) (fun _ _ _ h=>h) (Or.inl ⟨by rfl,?_⟩) (.inr f) ?_
  rotate_left
  ·intro j c;go_simp;try with_reducible rfl
  try simp only[Act.put,List.setIfInBounds_toArray,List.set_cons_zero,List.set_cons_succ]
  refine p4 (i:=11) (o:={dst:=some 86,op:=Op.fieldAddr 178 (Operand.tmp 85) 1,type:=0,pos:= "ref.go:124",after:=#[{on:=10,ground:=Ground.data}],guard:=none}) (v:=?_) rfl (by kernel_rfl) (by kernel_rfl) (by kernel_rfl) (by decide) (fun _ _ _ h=>h) (Or.inl ⟨by rfl,?_⟩) (.inr f) ?_
  rotate_left
  ·intro j c;go_simp;try with_reducible rfl
  try simp only[Act.put,List.setIfInBounds_toArray,List.set_cons_zero,List.set_cons_succ]
  refine X5 (i:=12) (o:={dst:=some 87,op:=Op.load 113 (Operand.tmp 86),type:=113,pos:= "ref.go:124",after:=#[{on:=11,ground:=Ground.data}],guard:=none}) (v:=?_) rfl (by kernel_rfl) (by kernel_rfl) (by kernel_rfl) (.inl (by kernel_rfl)) (by kernel_rfl) (fun _ _ _ h=>h) (Or.inl ⟨by rfl,?_⟩) f ?_
  rotate_left
  ·intro j c;(try dsimp only at c);obtain⟨Y,Z,s2,s3,s4,s5⟩:=c;go_simp;try with_reducible rfl
  try simp only[Act.put,List.setIfInBounds_toArray,List.set_cons_zero,List.set_cons_succ]
  refine p4 (i:=13) (o:={dst:=some 88,op:=Op.move (Operand.tmp 0),type:=37,pos:= "ref.go:124",after:=#[],guard:=none}) (v:=?_) rfl (by kernel_rfl) (by kernel_rfl) (by kernel_rfl) (by decide) (fun _ _ _ h=>h) (Or.inl ⟨by rfl,?_⟩) (.inr f) ?_
  rotate_left
  ·intro j c;go_simp;try with_reducible rfl
  try simp only[Act.put,List.setIfInBounds_toArray,List.set_cons_zero,List.set_cons_succ]
  refine p4 (i:=14) (o:={dst:=some 89,op:=Op.nilCheck (Operand.tmp 88),type:=0,pos:= "ref.go:124",after:=#[{on:=13,ground:=Ground.data}],guard:=none}) (v:=?_) rfl (by kernel_rfl) (by kernel_rfl) (by kernel_rfl) (by decide) (fun _ _ _ h=>h) (Or.inl ⟨by rfl,?_⟩) (.inr f) ?_
  rotate_left
  ·intro j c;go_simp;try with_reducible rfl
  try simp only[Act.put,List.setIfInBounds_toArray,List.set_cons_zero,List.set_cons_succ]
  refine p4 (i:=15) (o:={dst:=some 90,op:=Op.fieldAddr 178 (Operand.tmp 89) 2,type:=0,pos:= "ref.go:124",after:=#[{on:=14,ground:=Ground.data}],guard:=none}) (v:=?_) rfl (by kernel_rfl) (by kernel_rfl) (by kernel_rfl) (by decide) (fun _ _ _ h=>h) (Or.inl ⟨by rfl,?_⟩) (.inr f) ?_
  rotate_left
  ·intro j c;go_simp;try with_reducible rfl
  try simp only[Act.put,List.setIfInBounds_toArray,List.set_cons_zero,List.set_cons_succ]
  refine X5 (i:=16) (o:={dst:=some 91,op:=Op.load 114 (Operand.tmp 90),type:=114,pos:= "ref.go:124",after:=#[{on:=15,ground:=Ground.data}],guard:=none}) (v:=?_) rfl (by kernel_rfl) (by kernel_rfl) (by kernel_rfl) (.inl (by kernel_rfl)) (by kernel_rfl) (fun _ _ _ h=>h) (Or.inl ⟨by rfl,?_⟩) f ?_
  rotate_left
  ·intro j c;(try dsimp only at c);obtain⟨Y,Z,s2,s3,s4,s5⟩:=c;go_simp;try with_reducible rfl
  try simp only[Act.put,List.setIfInBounds_toArray,List.set_cons_zero,List.set_cons_succ]
  refine X6 (rs:=[7]) (by kernel_rfl) (by simp) ?_;refine de (o:={dst:=some 82,op:=Op.call {callee:=Callee.value (Operand.func 112),args:=#[Operand.tmp 79,Operand.tmp 80,Operand.tmp 81],argTypes:=#[36,24,41]},type:=121,pos:= "ref.go:124",after:=#[{on:=4,ground:=Ground.data},{on:=5,ground:=Ground.data},{on:=6,ground:=Ground.data}],guard:=none}) rfl (fun K B=>?_) eG
  (go_simp;go_fit aa.o;rintro e wx⟨vr,u,x,rfl,al,ae,af,ag,X⟩;refine B.out _ _ (.inr (.inr (E.o _ (r.o.tr X)))) ?_;have R3:=i7 (And.intro al (And.intro ae (And.intro af ag)));have QX:=i7 (r.o.tr X);have ac:=E.o _ QX.o;clear al ae af ag X B K f)
  try simp only[Act.put,List.setIfInBounds_toArray,List.set_cons_zero,List.set_cons_succ]
  obtain⟨ra,rc,az,aj⟩:=R3.o.1.is;have ar:=i7 aj;subst az;have f:=ac;have D:=ap.o wx ra rc _ _ QX.o ar.o (fun b z=>LR r.o.size (R3.o.2.1 b z)) (fun b z=>LR r.o.size (R3.o.2.2.1 b z)) R3.o.2.2.2;replace D:=i7 D;rw[aq.o]at D ⊢;clear aj ac;refine p4 (i:=8) (o:={dst:=some 83,op:=Op.build 123 #[(0,Operand.tmp 77),(1,Operand.tmp 78),(2,Operand.tmp 82)],type:=123,pos:= "ref.go:124",after:=#[{on:=2,ground:=Ground.data},{on:=3,ground:=Ground.data},{on:=7,ground:=Ground.data}],guard:=none}) (v:=?_) rfl (by kernel_rfl) (by kernel_rfl) (by kernel_rfl) (by decide) (fun _ _ _ h=>h) (Or.inl ⟨by rfl,?_⟩) (.inr f) ?_
  rotate_left
  ·intro j c;go_simp;try with_reducible rfl
  try simp only[Act.put,List.setIfInBounds_toArray,List.set_cons_zero,List.set_cons_succ]
  refine X6 (rs:=[17]) (by kernel_rfl) (by simp) ?_;refine de (o:={dst:=some 92,op:=Op.call {callee:=Callee.value (Operand.func 111),args:=#[Operand.tmp 75,Operand.tmp 83,Operand.tmp 87,Operand.tmp 91],argTypes:=#[37,123,113,114]},type:=27,pos:= "ref.go:124",after:=#[{on:=0,ground:=Ground.data},{on:=8,ground:=Ground.data},{on:=12,ground:=Ground.data},{on:=16,ground:=Ground.data},{on:=7,ground:=Ground.chain}],guard:=none}) rfl (fun K B=>?_) eG
  (go_simp;go_fit D.o;rintro e w4⟨rfl,y4⟩;refine B.out _ _ (.inr (.inl rfl)) ?_;replace y4:=i7 y4;clear B K)
  try simp only[Act.put,List.setIfInBounds_toArray,List.set_cons_zero,List.set_cons_succ]
  refine p4 (i:=18) (o:={dst:=some 6,op:=Op.assign (Operand.tmp 92),type:=27,pos:= "ref.go:124",after:=#[{on:=17,ground:=Ground.data},{on:=17,ground:=Ground.chain},{on:=0,ground:=Ground.phase},{on:=1,ground:=Ground.phase},{on:=2,ground:=Ground.phase},{on:=3,ground:=Ground.phase},{on:=4,ground:=Ground.phase},{on:=5,ground:=Ground.phase},{on:=6,ground:=Ground.phase},{on:=7,ground:=Ground.phase},{on:=8,ground:=Ground.phase},{on:=9,ground:=Ground.phase},{on:=10,ground:=Ground.phase},{on:=11,ground:=Ground.phase},{on:=12,ground:=Ground.phase},{on:=13,ground:=Ground.phase},{on:=14,ground:=Ground.phase},{on:=15,ground:=Ground.phase},{on:=16,ground:=Ground.phase},{on:=17,ground:=Ground.phase}],guard:=none}) (v:=?_) rfl (by kernel_rfl) (by kernel_rfl) (by kernel_rfl) (by decide) (fun _ _ _ h=>h) (Or.inl ⟨by rfl,?_⟩) (.inl (by kernel_rfl)) ?_
  rotate_left
  ·intro j c;go_simp;try with_reducible rfl
  try simp only[Act.put,List.setIfInBounds_toArray,List.set_cons_zero,List.set_cons_succ]
  refine oe (by kernel_rfl) ?_ _;go_wp2;rw[HZ.o];exact⟨rfl,y4.o⟩
end Go.Proofs.YtofcogekgcgjhaaGreatDoor
