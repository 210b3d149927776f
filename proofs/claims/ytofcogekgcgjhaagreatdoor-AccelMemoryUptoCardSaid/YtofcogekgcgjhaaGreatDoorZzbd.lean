/- Packed. -/
import Derived.Test.YtofcogekgcgjhaaGreatDoorZzbc
set_option maxRecDepth 100000
set_option maxHeartbeats 8000000
namespace Go.Proofs.YtofcogekgcgjhaaGreatDoor
open Go.RowKit Go.Mine Go.Mine.Ac Go.Proofs.Tryz
def Dl(w:World)(l:List Int)(L:Nat)(g:Nat)(i:Value)(wr:World):Prop:=∃j:Nat,j+g=l.length∧i=.int .i64 j∧(∀(t:Nat)x,t<j->l[t]?=some x->¬(L:Int)<=x)∧TF w wr
theorem vg{w:World}{rs:Nat->Nat}{p:Nat}{dv tv cv:Value}{s:St}(h:F4 78 w rs p dv tv cv s){S:Nat->Prop}{a:Option Addr}{cap:Nat}{c:Cm}(y:p7 w S a cap c.par):
  CZ 175 #[pt p,kJ a cap c] w (RT (.bool (F9 s c)) w):=by
 obtain⟨r,D⟩:=EX (F9 s c);have HR:Hid (r=F9 s c):=D;rw[<-D];obtain⟨ae,X,-⟩:=h.trees;obtain⟨ta,ab,rfl,-,-⟩:=X.value;obtain⟨ac,Y,-⟩:=h.commits;obtain⟨ca,aa,rfl,-,-⟩:=Y.value;have f:=rS s c;rw[<-D]at f;replace f:=i7 f;obtain⟨par,tree⟩:=c;unfold kJ;dsimp only at f y ⊢;obtain⟨l,F⟩:=EX (w.alloc (.cells #[.slice a par.length cap,.int .i64 tree] 55));have P:Hid (l=w.alloc (.cells #[.slice a par.length cap,.int .i64 tree] 55)):=F;obtain⟨E,J⟩:=A0 (w:=w) (.cells #[.slice a par.length cap,.int .i64 tree] 55);rw[<-F]at E J;have A:Hid (TF w l):=E;have Z:Hid (p7 w S a cap par):=y;have Q:Hid (∀W,TF l W->W.cell? ⟨w.heap.size,0,none⟩=some (.slice a par.length cap)∧W.cell? ⟨w.heap.size,1,none⟩=some (.int .i64 tree)∧W.cell? ⟨p,1,none⟩=some (.slice ta s.trees.length ab)∧W.cell? ⟨p,2,none⟩=some (.slice ca s.commits.length aa)∧w.heap.size<W.heap.size∧p<W.heap.size):=i7 fun W q=>by have H:=j9 J q id;have I:=j9 h.blk (E.tr q) id;exact⟨g9 H 0 _ rfl,g9 H 1 _ rfl,g9 I 1 _ rfl,g9 I 2 _ rfl,i6 H,i6 I⟩
 obtain⟨N,B⟩:=EX par.length;have u:Hid (N=par.length∧N<=9223372036854775807):=i7 ⟨B,by have:=y.1;have:=y.2.1;simp only[maxLen]at this;omega⟩;rw[<-B]at Q P ⊢;generalize s.trees.length=L at *;generalize s.commits.length=b at *;have O:Hid (Dl l par b N (.int .i64 0) l):=⟨0,by rw[B,Nat.zero_add],rfl,fun t d k=>by omega,TQ⟩;clear h X Y y D F E J B;go_enter func175,ntmps175;go_wp2_with fail;rw[<-P.o];go_loopg[5] N (fun g i wr=>Dl l par b g i wr)
 case atStart=>exact O.o
 case round=>
  obtain⟨j,U,rfl,V,k⟩:=hrel;have R:Hid (∀(t:Nat)x,t<j->par[t]?=some x->¬(b:Int)<=x):=V;have T:Hid (TF l wr):=k;have K:Hid (j+gk=par.length):=U;obtain⟨c1,c2,c3,c4,c5,c6⟩:=Q.o wr k;clear V k U O;by_cases z:j<N
  ·obtain⟨x,hx⟩:∃x,par[j]?=some x:=⟨_,LB (by rw[<-u.o.1];exact z)⟩;obtain⟨b2,off,rfl,-,ad,c0⟩:=B8 (Z.o.turned (A.o.tr T.o) fun _ _ q=>q) j x hx;have HW:Hid (wrap64 ((j:Int)+1)=((j+1:Nat):Int)):=i7 (by have:=u.o;simp[wrap64];omega);have C:Hid (par[j]?=some x):=hx;have M:Hid (j<N):=z;have e1:decide ((j:Int)<(N:Int))=true:=LX (by omega);have e2:decide (j<N)=true:=LX z;clear hx;by_cases m:(b:Int)<=x
   ·have v:decide ((b:Int)<=x)=true:=LX m;have n:Hid (dP par b=true):=i7 (by unfold dP;rw[List.any_eq_true];exact⟨x,LI C.o,by simpa using m⟩);clear m;go_wp2;go_quiet (fail);go_wp2;go_ret;exact⟨by rw[f.o,n.o];simp,(A.o.tr T.o).drawN _⟩
   ·have v:decide ((b:Int)<=x)=false:=LD m;have n:Hid (¬(b:Int)<=x):=m;clear m;go_wp2;go_quiet (fail);go_wp2;go_roundg (gk-1)
    case measure=>have:=K.o;have:=u.o;have:=M.o;omega
    case rel=>
     refine⟨j+1,by have:=K.o;have:=u.o;have:=M.o;omega,by rw[HW.o],fun t e k G=>?_,T.o.drawN _⟩;rcases Nat.lt_or_eq_of_le (Nat.le_of_lt_succ k)with q|q
     ·have:=R.o t e q G;omega
     ·rw[q,C.o]at G;obtain rfl:=Option.some.inj G;have:=n.o;omega
  ·have e1:decide ((j:Int)<(N:Int))=false:=LD (by omega);have e2:decide (j<N)=false:=LD z;have n:Hid (dP par b=false):=i7 (by unfold dP;rw[List.any_eq_false];intro c hc;obtain⟨t,k⟩:=LM hc;have:=(LA.1 k).1;simpa using R.o t c (by have:=u.o;omega) k);clear z;by_cases hx:tree<(L:Int)
   ·have v:decide (tree<(L:Int))=true:=LX hx;rw[v,n.o]at f;clear hx;go_wp2;go_quiet (fail);go_wp2;go_ret;exact⟨by rw[f.o];rfl,(A.o.tr T.o).drawN _⟩
   ·have v:decide (tree<(L:Int))=false:=LD hx;rw[v]at f;clear hx;go_wp2;go_quiet (fail);go_wp2;go_ret;exact⟨by rw[f.o];rfl,(A.o.tr T.o).drawN _⟩
theorem go(W:World)(e:TypeId)(size:Nat):Sl (W.alloc (.cells #[] e)) (fun b=>W.heap.size<=b) e size (.slice (some ⟨W.heap.size,0,none⟩) 0 0) [] 0:=⟨by simp,.inr ⟨W.heap.size,0,0,#[],rfl,LS _,i8 W _,LS _,Nat.zero_le _,by simp,by simp⟩⟩
def jG(w:World)(a:Nat->Prop)(rs:Nat->Nat)(d p:Nat)(r:Dk×St×Int×Nat)(e:Ending)(w':World):Prop:=e=.returned (.tuple #[.int .i64 r.2.2.1,.int .i64 r.2.2.2])∧BG 78 (fun W S=>G9 W S d r.1) w a rs p (pt d) r.2.1 w'
theorem info96t:(prog.info? 96).map (fun i=>(i.zero,i.size,i.bytes))=some (some (.agg #[.string ⟨#[]⟩,.int .u32 0]),2,24):=by kernel_rfl
theorem pG{w:World}{f S:Nat->Prop}{d p:Nat}{D:Dk}{rs:Nat->Nat}{tv F:Value}{s:St}{a:Option Addr}{cap:Nat}{t:List Ent}(Q:G9 w f d D)(ak:D.Ok)(h:F4 78 w rs p (pt d) tv F s)(A:∀b,f b->rs b=0)(ai:∀b,f b->b<w.heap.size)
  (B:H1 w S a cap t) (hS:∀b,S b->¬f b∧rs b=0) (an:t.length<=1000000000) (y:s.dead=false) (aj:¬65536<=s.trees.length) (hw:∀b,O9 t=.ok b->(writeS D s 1 b).2.2=0):
  CZ 84 #[pt p,.slice a t.length cap] w (jG w f rs d p (addTree D s t)):=by
 obtain⟨Z,R⟩:=EX (jG w f rs d p (addTree D s t));have HZ:Hid (Z=jG w f rs d p (addTree D s t)):=R;rw[<-R];obtain⟨ag,Y,af⟩:=h.trees;obtain⟨ta,r,rfl,-,-⟩:=Y.value;have L:Hid (∀W,TF w W->W.cell? ⟨p,3,none⟩=some (.bool false)∧W.cell? ⟨p,1,none⟩=some (.slice ta s.trees.length r)∧p<W.heap.size):=fun W q=>by have c:=j9 h.blk q id;exact⟨by rw[<-y];exact g9 c 3 _ rfl,g9 c 1 _ rfl,i6 c⟩
 obtain⟨j1,j2,j3⟩:=L.o w TQ;have m:=pn w B an;unfold W0 at m;obtain⟨n,C⟩:=EX s.trees.length;rw[<-C]at j2 L;cases l:O9 t with
 |error k=>
  have E:Hid (addTree D s t=(D,s,0,k)):=Z0 y l;rw[l]at m;have hk:=rZ l;have e3:((k:Int)==0)=false:=by simp;omega
  unfold exV at m;dsimp only at m;have au:Hid (∀w',TF w w'->BG 78 (fun W S=>G9 W S d D) w f rs p (pt d) s w'):=fun w' q=>⟨f,rs,_,F,Q.turned q fun _ _ z=>z,fun b c=>.inl c,fun b c=>LC (ai b c) q.size,h.turned q fun _ _ z=>z,fun b c=>.inl c,A,q.mono fun _ _ z=>z.elim⟩
  clear Q h R B y l hk Y af C;go_enter func84,ntmps84;go_wp2_with(go_fit m;rintro e I⟨rfl,q⟩;obtain⟨k1,k2,k3⟩:=L.o _ q;replace q:=i7 q);rw[HZ.o];exact⟨by rw[E.o];rfl,by rw[E.o];exact au.o _ q.o⟩
 |ok body=>
  rw[l]at m;unfold exV at m;dsimp only at m;have c:=jD l;have hK:=hw body l;obtain⟨D1,j,K,G⟩:∃D1 j K,writeS D s 1 body=(D1,j,K):=⟨_,_,_,rfl⟩;rw[G]at hK;obtain rfl:K=0:=hK;have al:=O6 D s 1 body;have HW:Hid (∀I,TF w I->CZ 173 #[pt p,.int .i64 1,.string body] I fun e w'=>e=.returned (.int .i64 0)∧Dj 78 (fun W S=>G9 W S d D1) w f p rs (pt d) (.slice ta n r) F j w'):=fun I q=>by have:=mq (Q.turned q fun _ _ z=>z) ak (h.turned q fun _ _ z=>z) A y 1 body (by omega) (by omega) (by omega) (by rw[K0];omega);rw[G]at this;refine this.mono fun e w'⟨x,S1,g1,g2,g3,P,g5⟩=>⟨x,S1,g1,fun b c=>(g2 b c).imp id fun z=>LR q.size z,g3,by rw[C];exact P,q.comp g5 fun i _ z=>z.elim False.elim id⟩
  rw[G]at al;obtain⟨X,am⟩:=al;dsimp only at X am;have d1:decide ((65536:Int)<=(n:Int))=false:=by simp;omega
  have d2:decide (65536<=n)=false:=by simp;omega
  have E:Hid (addTree D s t=(D1,{j with trees:=j.trees++[t]},((j.trees.length:Nat):Int),0)):=O5 y l aj G;have T:j.trees.length=n:=by rw[X,C]
  have HN:Hid (j.trees.length=n):=T;have V:=h.r1;have HX:Hid (∀w2,Dj 78 (fun W S=>G9 W S d D1) w f p rs (pt d) (.slice ta n r) F j w2->d7 (fun b=>f b∨b=p) w w2∧∀W,d7 (fun b=>w2.heap.size<=b∨rs b=2) w2 W->W.cell? ⟨p,1,none⟩=some (.slice ta n r)∧p<W.heap.size∧W.frozen? ⟨p,1,none⟩=false):=fun w2 q=>by
   obtain⟨S1,g1,g2,g3,P,g5⟩:=q;refine⟨g5,fun W t=>?_⟩;have hl:=i6 P.blk;have c:=j9 P.blk t fun z=>z.elim (fun z=>by omega) fun z=>by omega
   exact⟨g9 c 1 _ rfl,i6 c,j7 c 1⟩
  have ah:∀b,S b->¬(f b∨b=p):=fun b c q=>q.elim (hS b c).1 fun q=>by have:=(hS b c).2;rw[q,V]at this;omega
  have aa:∀{w2},d7 (fun b=>f b∨b=p) w w2->Sl w2 (fun b=>rs b=2) 65 1 (.slice ta n r) ag n:=fun q=>by
   rw[C];refine Y.turned q fun b c z=>?_
   rcases z with z|z
   ·have:=A b z;omega
   ·rw[z,V]at c;omega
  have aq:Hid (∀w2 W,d7 (fun b=>f b∨b=p) w w2->TF w2 W->Src prog 2 65 (.slice a t.length cap) t.length (o6 t) W):=fun w2 W H q=>lL ((B.turned H ah).turned q fun _ _ z=>z)
  have ap:Hid (∀w2 W,d7 (fun b=>f b∨b=p) w w2->TF w2 W->Sl W (fun b=>rs b=2) 65 1 (.slice ta n r) ag n):=fun w2 W H q=>(aa H).turned q fun _ _ z=>z
  have ao:Hid (∀w2 g N w4 v v',Dj 78 (fun W S=>G9 W S d D1) w f p rs (pt d) (.slice ta n r) F j w2->TF w2 g->Sl g (fun b=>w2.heap.size<=b) 96 2 v (o6 t) t.length->TF g N->d7 (fun b=>rs b=2) N w4->Sl w4 (F2 (fun b=>rs b=2) N) 65 1 v' (ag++[v]) (n+1)->BG 78 (fun W S=>G9 W S d D1) w f rs p (pt d) {j with trees:=j.trees++[t]} (w4.setCell ⟨p,1,none⟩ v')):=fun w2 g N w4 v v' q1 H q3 q4 q5 q6=>by
   have hT:d7 (fun b=>f b∨b=p) w w2:=by obtain⟨_,_,_,_,_,z⟩:=q1;exact z
   refine vf (Is:=fun W S=>G9 W S d D1) (fun W W' S U q t z=>G9.turned q t z) q1 A h.bnd B.2.2.1 (by rw[T];exact aa hT) (fun i u hu=>?_) H q3 q4 q5 (by rw[T];exact q6);rw[X]at hu;obtain⟨a',av,e1,e2⟩:=af i u hu;refine⟨a',av,e1,e2.turned hT fun b c z=>?_⟩;rcases z with z|z
   ·have:=A b z;omega
   ·rw[z,V]at c;omega
  have m1:Hid (n+1<=maxLen∧(n+1)*24<=140737488355328):=i7 ⟨by simp only[maxLen];omega,by omega⟩;have m2:Hid (0+t.length<=maxLen∧(0+t.length)*24<=140737488355328):=i7 ⟨by simp only[maxLen];omega,by omega⟩;have ar:Hid (wrap64 ((n:Nat):Int)=(n:Int)):=i7 (by simp only[wrap64];omega);clear Q h R B y l Y af aj c X am G an hS ak A ai C T ah aa V hw;go_enter func84,ntmps84
  go_wp2_with(first
   |(go_fit m;rintro e I⟨rfl,q⟩;obtain⟨k1,k2,k3⟩:=L.o _ q;replace q:=i7 q)
   |(go_fit(HW.o _ q.o);rintro e w2⟨rfl,z⟩;obtain⟨x1,J⟩:=HX.o _ z;replace x1:=i7 x1;replace J:=i7 J;replace z:=i7 z;clear k1 k2 k3 j1 j2 j3))
  have Q1:Hid (TF w2 (w2.alloc (.cells #[] 96)).drew∧d7 (fun b=>w2.heap.size<=b∨rs b=2) w2 (w2.alloc (.cells #[] 96)).drew):=i7 ⟨TA.draw,TA.draw⟩;obtain⟨z1,z2,z3⟩:=J.o w2 TQ
  go_region_law ((first
   |(refine o5 (by rfl) _ _ 65 65 (by rfl) (go w2 96 2).drew underlying65 info96t rfl (by decide) (by rfl) (.slice a t.length cap) (by rfl) (aq.o w2 _ x1.o Q1.o.1) m2.o.1 m2.o.2 ?_;intro v g ab ht;have M:TF w2 g:=Q1.o.1.comp ht (fun i B z=>by have:w2.heap.size<=i:=z.elim False.elim id;omega);have ac:Sl g (fun b=>w2.heap.size<=b) 96 2 v (o6 t) t.length:=(by rw[List.nil_append,Nat.zero_add]at ab;exact ab.widen fun b z=>z.elim id fun z=>LR Q1.o.1.size z);obtain⟨ca,cc,rfl,-,-⟩:=ac.value;obtain⟨y1,y2,y3⟩:=J.o g (M.mono fun _ _ z=>z.elim);have O:Hid (Sl g (fun b=>w2.heap.size<=b) 96 2 (.slice ca t.length cc) (o6 t) t.length∧TF w2 g∧d7 (fun b=>w2.heap.size<=b∨rs b=2) w2 g):=i7 ⟨ac,M,M.mono fun _ _ z=>z.elim⟩;clear ab ht M ac)
   |(refine o5 (by rfl) _ _ 75 75 (by rfl) (ap.o w2 _ x1.o (O.o.2.1.new _)) underlying75 info65 rfl (by decide) (by rfl) (.slice (some ⟨g.heap.size,0,none⟩) 1 1) (by rfl) (G5 65 underlying75 [.slice ca t.length cc] (by simp[Value.oneCell']) g) m1.o.1 m1.o.2 ?_;intro v' w4 ad ae;obtain⟨a4,c4,rfl,-,-⟩:=ad.value;obtain⟨y4,y5,y6⟩:=J.o w4 ((O.o.2.2.new _).tr (ae.mono fun _ _ z=>.inr z));have Y4:=i7 (ao.o w2 g _ w4 _ _ z.o O.o.2.1 O.o.1 TA ae ad);clear ad ae)))
  all_goals go_wp2
  all_goals rw[HZ.o]
  all_goals exact⟨by rw[E.o];dsimp only;rw[HN.o];exact congrArg (fun i:Int=>Ending.returned (.tuple #[.int .i64 i,.int .i64 0])) ar.o,by rw[E.o];exact Y4.o⟩
theorem info3k:(prog.info? 3).map (fun i=>(i.zero,i.size,i.bytes))=some (some (.int .i64 0),1,8):=by kernel_rfl
theorem mr{w:World}{g S:Nat->Prop}{d p:Nat}{D:Dk}{rs:Nat->Nat}{tv cv:Value}{s:St}{a:Option Addr}{cap:Nat}{c:Cm}(X:G9 w g d D)(aj:D.Ok)(h:F4 78 w rs p (pt d) tv cv s)(J:∀b,g b->rs b=0)(aa:∀b,g b->b<w.heap.size)
  (E:p7 w S a cap c.par) (hS:∀b,S b->¬g b∧rs b=0) (ar:c.par.length<=1000000000) (I:s.dead=false) (ay:¬65536<=s.commits.length) (hw:∀b,U0 c=.ok b->(writeS D s 2 b).2.2=0):
  CZ 87 #[pt p,kJ a cap c] w (jG w g rs d p (addCommit D s c)):=by
 obtain⟨Z,hZ⟩:=EX (jG w g rs d p (addCommit D s c));have HZ:Hid (Z=jG w g rs d p (addCommit D s c)):=hZ;rw[<-hZ];obtain⟨N,O⟩:=EX c.par.length;obtain⟨B,ab⟩:=EX c.tree;have P:kJ a cap c=.agg #[.slice a N cap,.int .i64 B]:=by rw[O,ab];rfl
 rw[P];obtain⟨l,hV⟩:=EX (w.alloc (.cells #[.slice a N cap,.int .i64 B] 55));have V:Hid (l=w.alloc (.cells #[.slice a N cap,.int .i64 B] 55)):=hV;obtain⟨F,T⟩:=A0 (w:=w) (.cells #[.slice a N cap,.int .i64 B] 55);rw[<-hV]at F T;have R:=h.r1;have aG:=h.bnd p (by omega);have af:Hid (∀W,d7 (fun b=>(g b∨b=p)∨l.heap.size<=b∨rs b=3) l W->W.cell? ⟨w.heap.size,0,none⟩=some (.slice a N cap)∧W.cell? ⟨w.heap.size,1,none⟩=some (.int .i64 B)∧w.heap.size<W.heap.size):=fun W q=>by
  have f:=j9 T q (fun z=>by
   rcases z with(z|z)|z|z
   ·have:=aa _ z;omega
   ·omega
   ·have:=i6 T;omega
   ·have:=h.bnd w.heap.size (by omega);omega)
  exact⟨g9 f 0 _ rfl,g9 f 1 _ rfl,i6 f⟩
 have ae:Hid (∀W,TF l W->W.cell? ⟨w.heap.size,0,none⟩=some (.slice a N cap)∧W.cell? ⟨w.heap.size,1,none⟩=some (.int .i64 B)∧w.heap.size<W.heap.size):=fun W q=>af.o W (q.mono fun _ _ z=>z.elim)
 obtain⟨au,ac,al⟩:=h.commits;obtain⟨ta,M,rfl,-,-⟩:=ac.value;obtain⟨n,L⟩:=EX s.commits.length;have C3:Hid (∀W,TF l W->W.cell? ⟨p,3,none⟩=some (.bool false)∧W.cell? ⟨p,2,none⟩=some (.slice ta n M)∧p<W.heap.size):=fun W q=>by have f:=j9 (j9 h.blk F id) q id;rw[<-L]at f;exact⟨by rw[<-I];exact g9 f 3 _ rfl,g9 f 2 _ rfl,i6 f⟩
 have aw:Hid (∀w',TF l w'->BG 78 (fun W S=>G9 W S d D) w g rs p (pt d) s w'):=fun w' q'=>by have q:=F.tr q';exact⟨g,rs,_,_,X.turned q fun _ _ z=>z,fun b f=>.inl f,fun b f=>LC (aa b f) q.size,h.turned q fun _ _ z=>z,fun b f=>.inl f,J,q.mono fun _ _ z=>z.elim⟩
 obtain⟨j1,j2,j3⟩:=C3.o l TQ;obtain⟨b1,b2,b3⟩:=ae.o l TQ;have hen:=py l (E.turned F fun _ _ q=>q);unfold ds at hen;rw[P]at hen;cases C:U0 c with
 |error k=>
  have H:Hid (addCommit D s c=(D,s,0,k)):=R0 I C;rw[C]at hen;have hk:=sd C;have e3:((k:Int)==0)=false:=by simp;omega
  unfold exV at hen;dsimp only at hen;have ag:=i7 hen;rw[V.o]at j1 j2 j3 b1 b2 b3;clear X aj h J aa E hS ar hZ O ab P F T R I hV C hk af ae hen hw ac al L C3;go_enter func87,ntmps87;go_wp2_with fail;rw[<-V.o];go_wp2_with(go_fit ag.o;rintro e G⟨rfl,q⟩;replace q:=i7 q);rw[HZ.o];exact⟨by rw[H.o];rfl,by rw[H.o];exact aw.o _ q.o⟩
 |ok body=>
  rw[C]at hen;unfold exV at hen;dsimp only at hen;have ag:Hid (CZ 174 #[.agg #[.slice a N cap,.int .i64 B]] l (RT (.tuple #[.string body,.int .i64 0]) l)):=hen;have ah:Hid (∀W,TF l W->CZ 175 #[pt p,.agg #[.slice a N cap,.int .i64 B]] W (RT (.bool (F9 s c)) l)):=fun W q=>by have t0:TF w W:=F.tr q;have:=vg (h.turned t0 fun _ _ z=>z) (E.turned t0 fun _ _ z=>z) (c:=c);rw[P]at this;exact this.mono fun e w'⟨x,y⟩=>⟨x,q.tr y⟩
  rw[V.o]at j1 j2 j3 b1 b2 b3;cases Q:F9 s c with
  |false=>have H:Hid (addCommit D s c=(D,s,0,9)):=R4 I C Q;rw[Q]at ah;clear X aj h J aa E hS ar hZ O ab P F T R I hV C af hen ac al L Q hw;go_enter func87,ntmps87;go_wp2_with fail;rw[<-V.o];go_wp2_with(first|(go_fit ag.o;rintro e G⟨rfl,q⟩;obtain⟨x1,x2,x3⟩:=ae.o G q;replace q:=i7 q)|(go_fit(ah.o _ q.o);rintro e w2⟨rfl,m⟩;replace m:=i7 m));rw[HZ.o];exact⟨by rw[H.o];rfl,by rw[H.o];exact aw.o _ m.o⟩
  |true=>
   rw[Q]at ah;have f:=jE C;have hK:=hw body C;obtain⟨D1,A,K,ad⟩:∃D1 A K,writeS D s 2 body=(D1,A,K):=⟨_,_,_,rfl⟩;rw[ad]at hK;obtain rfl:K=0:=hK;have az:=O6 D s 2 body;have HW:Hid (∀G,TF l G->CZ 173 #[pt p,.int .i64 2,.string body] G fun e w'=>e=.returned (.int .i64 0)∧Dj 78 (fun W S=>G9 W S d D1) w g p rs (pt d) tv (.slice ta n M) A w'∧d7 (fun b=>g b∨b=p) l w'):=fun G qV=>by have q:TF w G:=F.tr qV;have:=mq (X.turned q fun _ _ z=>z) aj (h.turned q fun _ _ z=>z) J I 2 body (by omega) (by omega) (by omega) (by rw[K0];omega);rw[ad]at this;refine this.mono fun e w'⟨x,S1,g1,g2,g3,g4,g5⟩=>⟨x,⟨S1,g1,fun b f=>(g2 b f).imp id fun z=>LR q.size z,g3,by rw[L];exact g4,q.comp g5 fun i _ z=>z.elim False.elim id⟩,qV.comp g5 fun i _ z=>z.elim False.elim id⟩
   rw[ad]at az;obtain⟨aA,ak⟩:=az;dsimp only at aA ak;have d1:decide ((65536:Int)<=(n:Int))=false:=by simp;omega
   have d2:decide (65536<=n)=false:=by simp;omega
   have H:Hid (addCommit D s c=(D1,{A with commits:=A.commits++[c]},((A.commits.length:Nat):Int),0)):=H4 I C Q ay ad;have ai:A.commits.length=n:=by rw[ak,L]
   have HN:Hid (A.commits.length=n):=ai;have HX:Hid (∀w2,Dj 78 (fun W S=>G9 W S d D1) w g p rs (pt d) tv (.slice ta n M) A w2->d7 (fun b=>g b∨b=p) w w2∧∀W,d7 (fun b=>w2.heap.size<=b∨rs b=3) w2 W->W.cell? ⟨p,2,none⟩=some (.slice ta n M)∧p<W.heap.size∧W.frozen? ⟨p,2,none⟩=false):=fun w2 q=>by
    obtain⟨S1,g1,g2,g3,g4,g5⟩:=q;refine⟨g5,fun W t=>?_⟩;have hl:=i6 g4.blk;have f:=j9 g4.blk t fun z=>z.elim (fun z=>by omega) fun z=>by omega
    exact⟨g9 f 2 _ rfl,i6 f,j7 f 2⟩
   have ax:∀b,S b->¬(g b∨b=p):=fun b f q=>q.elim (hS b f).1 fun q=>by have:=(hS b f).2;rw[q,R]at this;omega
   have am:∀{w2},d7 (fun b=>g b∨b=p) w w2->Sl w2 (fun b=>rs b=3) 55 2 (.slice ta n M) au n:=fun q=>by
    rw[L];refine ac.turned q fun b f z=>?_
    rcases z with z|z
    ·have:=J b z;omega
    ·rw[z,R]at f;omega
   have aD:Hid (∀w2 W,d7 (fun b=>g b∨b=p) w w2->TF w2 W->Src prog 1 41 (.slice a N cap) N (ic c.par) W):=fun w2 W m q=>by rw[O];exact ez ((E.turned m ax).turned q fun _ _ z=>z)
   have aC:Hid (∀w2 W,d7 (fun b=>g b∨b=p) w w2->TF w2 W->Sl W (fun b=>rs b=3) 55 2 (.slice ta n M) au n):=fun w2 W m q=>(am m).turned q fun _ _ z=>z
   have aB:Hid (∀w2 j W3 r v v',Dj 78 (fun W S=>G9 W S d D1) w g p rs (pt d) tv (.slice ta n M) A w2->TF w2 j->Sl j (fun b=>w2.heap.size<=b) 3 1 v (ic c.par) N->TF j W3->d7 (fun b=>rs b=3) W3 r->Sl r (F2 (fun b=>rs b=3) W3) 55 2 v' (au++[v,.int .i64 B]) (n+1)->BG 78 (fun W S=>G9 W S d D1) w g rs p (pt d) {A with commits:=A.commits++[c]} (r.setCell ⟨p,2,none⟩ v')):=fun w2 j W3 r v v' q1 m q3 q4 q5 q6=>by
    have hT:d7 (fun b=>g b∨b=p) w w2:=by obtain⟨_,_,_,_,_,z⟩:=q1;exact z
    refine pF (Is:=fun W S=>G9 W S d D1) (fun W W' S U q t z=>G9.turned q t z) q1 J h.bnd E.2.2.1 (by rw[ai];exact am hT) (fun i u hu=>?_) m (by rw[<-O];exact q3) q4 q5 (by rw[ai,<-ab];exact q6);rw[ak]at hu;obtain⟨a',aF,e1,e3,e2⟩:=al i u hu;refine⟨a',aF,e1,e3,e2.turned hT fun b f z=>?_⟩;rcases z with z|z
    ·have:=J b z;omega
    ·rw[z,R]at f;omega
   have m1:Hid (n+1<=maxLen∧(n+1)*32<=140737488355328):=i7 ⟨by simp only[maxLen];omega,by omega⟩;have m2:Hid (0+N<=maxLen∧(0+N)*8<=140737488355328):=i7 ⟨by simp only[maxLen];omega,by omega⟩;have aE:Hid (wrap64 ((n:Nat):Int)=(n:Int)):=i7 (by simp only[wrap64];omega);clear X aj h J aa E hS ar hZ O ab P F T R I hV C hen ac al L Q ay f aA ak ad ai ax am hw;go_enter func87,ntmps87;go_wp2_with fail;rw[<-V.o];go_wp2_with(first|(go_fit ag.o;rintro e G⟨rfl,q⟩;obtain⟨x1,x2,x3⟩:=ae.o G q;replace q:=i7 q)|(go_fit(ah.o _ q.o);rintro e w2⟨rfl,m⟩;obtain⟨k1,k2,k3⟩:=C3.o _ m;replace m:=i7 m)|(go_fit(HW.o _ m.o);rintro e j⟨rfl,z,tz⟩;obtain⟨y1,y2⟩:=HX.o _ z;replace y1:=i7 y1;replace y2:=i7 y2;replace tz:=i7 tz;replace z:=i7 z;clear b1 b2 b3 x1 x2 x3 k1 k2 k3 j1 j2 j3 aG));have Q1:Hid (TF j (j.alloc (.cells #[] 3)).drew):=i7 TA.draw;have av:Hid (∀W,d7 (fun b=>j.heap.size<=b∨rs b=3) j W->W.cell? ⟨w.heap.size,0,none⟩=some (.slice a N cap)∧W.cell? ⟨w.heap.size,1,none⟩=some (.int .i64 B)∧w.heap.size<W.heap.size):=i7 fun W t=>af.o W (tz.o.comp t fun i E z=>z.elim .inl fun z=>z.elim (fun z=>by have:=tz.o.size;omega) fun z=>.inr (.inr z))
   obtain⟨z1,z2,z3⟩:=y2.o j TQ;obtain⟨f1,f2,f3⟩:=av.o j TQ
   go_region_law ((first
    |(refine o5 (by rfl) _ _ 41 41 (by rfl) (go j 3 1).drew underlying41 info3k rfl (by decide) (by rfl) (.slice a N cap) (by rfl) (aD.o j _ y1.o Q1.o) m2.o.1 m2.o.2 ?_;intro v r an ht;have T3:TF j r:=Q1.o.comp ht (fun i E z=>by have:j.heap.size<=i:=z.elim False.elim id;omega);have ao:Sl r (fun b=>j.heap.size<=b) 3 1 v (ic c.par) N:=(by rw[List.nil_append,Nat.zero_add]at an;exact an.widen fun b z=>z.elim id fun z=>LR Q1.o.size z);obtain⟨ca,cc,rfl,-,-⟩:=ao.value;obtain⟨u1,u2,u3⟩:=y2.o r (T3.mono fun _ _ z=>z.elim);obtain⟨g1,g2,g3⟩:=av.o r (T3.mono fun _ _ z=>z.elim);have Y:Hid (Sl r (fun b=>j.heap.size<=b) 3 1 (.slice ca N cc) (ic c.par) N∧TF j r):=i7 ⟨ao,T3⟩;clear an ht T3 ao)
    |(refine o5 (by rfl) _ _ 76 76 (by rfl) (aC.o j _ y1.o (Y.o.2.new _)) underlying76 info55 rfl (by decide) (by rfl) (.slice (some ⟨r.heap.size,0,none⟩) 1 1) (by rfl) (G5 55 underlying76 [.slice ca N cc,.int .i64 B] (by simp[Value.oneCell']) r) m1.o.1 m1.o.2 ?_;intro v' w5 ap aq;obtain⟨a4,c4,rfl,-,-⟩:=ap.value;obtain⟨y4,y5,y6⟩:=y2.o w5 (((Y.o.2.new _).mono fun _ _ z=>z.elim).tr (aq.mono fun _ _ z=>.inr z));have Y4:=i7 (aB.o j r _ w5 _ _ z.o Y.o.2 Y.o.1 TA aq ap);clear ap aq)))
   all_goals go_wp2
   all_goals rw[HZ.o]
   all_goals exact⟨by rw[H.o];dsimp only;rw[HN.o];exact congrArg (fun i:Int=>Ending.returned (.tuple #[.int .i64 i,.int .i64 0])) aE.o,by rw[H.o];exact Y4.o⟩
def kB(w:World)(d e:Nat->Prop)(v:Value)(b:List Value)(l:List (List Int)):Prop:=Sl w d 41 1 v b l.length∧∀(i:Nat)c,l[i]?=some c->∃a cap,b[i]?=some (.slice a c.length cap)∧p7 w e a cap c
def fe(c w:World)(d a:Nat->Prop)(v:Value)(e:List Value)(l:List (List Int)):Prop:=kB w d a v e l∧(∀b,d b->(c.heap.size<=b∧b<w.heap.size)∧¬a b)∧(∀b,a b->c.heap.size<=b∧b<w.heap.size)∧TF c w
theorem kB.turned{w w':World}{d e T:Nat->Prop}{v:Value}{f:List Value}{l:List (List Int)}(h:kB w d e v f l)(t:d7 T w w')(h1:∀b,d b->¬T b)(h2:∀b,e b->¬T b):kB w' d e v f l:=⟨h.1.turned t h1,fun i c k=>(h.2 i c k).imp fun a⟨cap,g,j⟩=>⟨cap,g,j.turned t h2⟩⟩
theorem fe.push{C w j m k:World}{f r:Nat->Prop}{v B n:Value}{g:List Value}{l:List (List Int)}{c:List Int}(h:fe C w f r v g l)(G:∀x∈c,eO x)(u:TF w j)(J:Sl j (fun b=>w.heap.size<=b) 3 1 n (ic c) c.length)
  (o:TF j m) (p:d7 f m k) (I:Sl k (F2 f m) 41 1 B (g++[n]) (l.length+1)):fe C k (fun b=>(f b∨m.heap.size<=b)∧b<k.heap.size) (fun b=>r b∨(w.heap.size<=b∧b<j.heap.size)) B (g++[n]) (l++[c]):=by
 obtain⟨⟨h1,h2⟩,h3,h4,s⟩:=h;have M:=s.size;have N:=u.size;have O:=o.size;have P:=p.size;have t:d7 f w k:=(u.tr o).comp p fun i _ z=>z.elim False.elim id
 refine⟨⟨?_,fun i A e=>?_⟩,fun b d=>⟨⟨?_,d.2⟩,fun z=>?_⟩,fun b d=>⟨?_,?_⟩,s.comp t fun i e z=>z.elim id fun z=>by have:=(h3 i z).1.1;omega⟩
 ·rw[List.length_append];exact E7 I fun b d z=>⟨z,d⟩
 ·rw[List.getElem?_append]at e;have L:g.length=l.length:=by have:=h1.1;omega
  split at e
  ·rename_i q;obtain⟨a,cap,D,E⟩:=h2 i A e;exact⟨a,cap,by rw[List.getElem?_append_left (by omega)];exact D,(E.turned t fun b d z=>(h3 b z).2 d).mono fun b d=>.inl d⟩
  ·rename_i q;have F:i-l.length=0:=by have:=(LA.1 e).1;simpa using this
   rw[F]at e;obtain rfl:c=A:=by simpa using e
   obtain⟨a,cap,K,H⟩:=gU (E7 J (T:=fun b=>w.heap.size<=b∧b<j.heap.size) fun b h1 h2=>⟨h2,h1⟩) G;exact⟨a,cap,by rw[List.getElem?_append_right (by omega),show i-g.length=0 by omega,K];rfl,((H.turned o fun _ _ z=>z).turned p fun b d z=>by have:=(h3 b z).1.2;omega).mono fun b d=>.inr d⟩
 ·rcases d.1 with z|z
  ·exact(h3 b z).1.1
  ·omega
 ·rcases d.1 with y|y
  ·rcases z with z|z
   ·exact(h3 b y).2 z
   ·have:=(h3 b y).1.2;omega
  ·rcases z with z|z
   ·have:=(h4 b z).2;omega
   ·omega
 ·rcases d with z|z
  ·exact(h4 b z).1
  ·omega
 ·rcases d with z|z
  ·have:=(h4 b z).2;omega
  ·omega
def H5(s:St):List (List Int):=s.commits.map (·.par)
def Dm(w:World)(l:List (List Int))(g:Nat)(c d:Value)(wr:World):Prop:=∃(j:Nat)(a b:Nat->Prop)(e:List Value),j+g=l.length∧d=.int .i64 j∧fe w wr a b c e (l.take j)
theorem info41:(prog.info? 41).map (fun i=>(i.zero,i.size,i.bytes))=some (some (.slice none 0 0),1,24):=by kernel_rfl
theorem vh{w:World}{rs:Nat->Nat}{p:Nat}{Z tv cv:Value}{s:St}(h:F4 78 w rs p Z tv cv s)(hl:s.commits.length<=65536)(aa:∀c∈s.commits,c.par.length<=16):
  CZ 203 #[pt p] w fun e w'=>∃f m v k,e=.returned v∧fe w w' f m v k (H5 s):=by
 obtain⟨F,G⟩:∃F:Ending->World->Prop,F=fun e w'=>∃f m v k,e=.returned v∧fe w w' f m v k (H5 s):=⟨_,rfl⟩
 have HZ:Hid (F=fun e w'=>∃f m v k,e=.returned v∧fe w w' f m v k (H5 s)):=G;rw[<-G];obtain⟨l,I⟩:=EX (H5 s);have R:Hid (l=H5 s):=I;obtain⟨L,A⟩:=EX s.commits.length;have d:Hid (L=l.length∧L=s.commits.length∧L<=65536):=i7 ⟨by rw[I,A];simp[H5],A,by omega⟩;obtain⟨aj,ad,-⟩:=h.commits;obtain⟨V,Y,rfl,-,-⟩:=ad.value;have H:Hid (F4 78 w rs p Z tv (.slice V s.commits.length Y) s):=h;have af:Hid (∀c∈s.commits,c.par.length<=16):=aa;have C2:Hid (∀W,TF w W->W.cell? ⟨p,2,none⟩=some (.slice V L Y)∧p<W.heap.size):=i7 fun W q=>by have hb:=j9 h.blk q id;rw[A];exact⟨g9 hb 2 _ rfl,i6 hb⟩
 have O:Hid (Dm w l L (.slice none 0 0) (.int .i64 0) w):=⟨0,fun _=>False,fun _=>False,[],by have:=d.o;omega,rfl,⟨Sl.nil _ _ _ _,fun i c hi=>by simp at hi⟩,fun _ z=>z.elim,fun _ z=>z.elim,TQ⟩;clear h hl aa G I A ad;go_enter func203,ntmps203;go_wp2;go_loopg[3,4] L (fun g gv iv wr=>Dm w l g gv iv wr)
 case atStart=>exact O.o
 case round=>
  obtain⟨j,f,m,k,ab,rfl,D⟩:=hrel;have u:Hid (fe w wr f m _ k (l.take j)):=D;have Q:Hid (j+gk=l.length):=ab;obtain⟨c2,c3⟩:=C2.o wr D.2.2.2;obtain⟨ga,gc,rfl,-,-⟩:=D.1.1.value;have ac:(l.take j).length=j:=by rw[List.length_take];have:=d.o;omega
  rw[ac]at u ⊢;clear ab D O;by_cases y:j<L
  ·have e3:decide ((j:Int)<(L:Int))=true:=LX (by omega);have e4:decide (j<L)=true:=LX y;obtain⟨c,C⟩:∃c,s.commits[j]?=some c:=⟨_,LB (by rw[<-d.o.2.1];exact y)⟩;have r:Hid (l[j]?=some c.par∧j<L∧(l.take j).length=j):=i7 ⟨by rw[R.o];simp[H5,C],y,ac⟩;obtain⟨g,off,cap,a,X,hv,hg,k1,k2,hin⟩:=(H.o.turned u.o.2.2.2 fun _ _ z=>z).commits.at C;simp only[Value.slice.injEq]at hv;obtain⟨rfl,-,rfl⟩:=hv;have ai:=af.o c (LI C);obtain⟨N,B⟩:=EX c.par.length;have S:Hid (N=c.par.length∧N<=16∧∀x∈c.par,eO x):=i7 ⟨B,by omega,hin.2.2.1⟩;have ah:Hid (∀W,TF wr W->Src prog 1 41 (.slice a N X) N (ic c.par) W):=i7 fun W t=>by rw[B];exact ez (hin.turned t fun _ _ z=>z)
   rw[<-B]at k1;have Q1:Hid (TF wr (wr.alloc (.cells #[] 3))):=i7 TA;have ag:Hid (∀W,TF wr W->Sl W f 41 1 (.slice ga j gc) k j):=i7 fun W t=>by
    have:=u.o.1.1.turned t fun _ _ z=>z
    rw[r.o.2.2]at this;exact this
   have m1:Hid (j+1<=maxLen∧(j+1)*24<=140737488355328):=i7 ⟨by have:=d.o;simp only[maxLen];omega,by have:=d.o;omega⟩;have m2:Hid (0+N<=maxLen∧(0+N)*8<=140737488355328):=i7 ⟨by simp only[maxLen];omega,by omega⟩;have HW:Hid (wrap64 ((j:Int)+1)=((j+1:Nat):Int)):=i7 (by have:=d.o;simp[wrap64];omega);clear C hin B ai
   go_wp2_with(first
    |(at_builtin;refine m7 rfl _ _ 41 41 rfl (go wr 3 1) underlying41 info3k rfl (by decide) rfl (.slice a N X) rfl (ah.o _ Q1.o) m2.o.1 m2.o.2 ?_;intro v n J ht;have T:TF wr n:=Q1.o.comp ht (fun i hi z=>by have:wr.heap.size<=i:=z.elim False.elim id;omega);have K:Sl n (fun b=>wr.heap.size<=b) 3 1 v (ic c.par) N:=(by rw[List.nil_append,Nat.zero_add]at J;exact J.widen fun b z=>z.elim id fun z=>LR Q1.o.size z);obtain⟨na,nc,rfl,-,-⟩:=K.value;have E:Hid (Sl n (fun b=>wr.heap.size<=b) 3 1 (.slice na N nc) (ic c.par) N∧TF wr n):=i7 ⟨K,T⟩;clear J ht T K)
    |(at_builtin;refine m7 rfl _ _ 261 261 rfl (ag.o _ (E.o.2.new _)) underlying261 info41 rfl (by decide) rfl (.slice (some ⟨n.heap.size,0,none⟩) 1 1) rfl (G5 41 underlying261 [.slice na N nc] (by simp[Value.oneCell']) n) m1.o.1 m1.o.2 ?_;intro v' w5 M ae;obtain⟨a4,c4,rfl,-,-⟩:=M.value;have U:=i7 (And.intro M ae);clear M ae))
   go_roundg (gk-1)
   case measure=>have:=Q.o;have:=d.o;have:=r.o.2.1;omega
   case rel=>
    have e:l.take (j+1)=l.take j++[c.par]:=by rw[List.take_add_one,r.o.1];rfl
    have P:=u.o.push S.o.2.2 E.o.2 (by rw[<-S.o.1];exact E.o.1) TA U.o.2 (by rw[r.o.2.2];exact U.o.1);rw[<-e]at P;exact⟨j+1,_,_,_,by have:=Q.o;have:=d.o;have:=r.o.2.1;omega,by rw[HW.o],P⟩
  ·have e3:decide ((j:Int)<(L:Int))=false:=LD (by omega);have e4:decide (j<L)=false:=LD y;have HE:Hid (l.take j=H5 s):=i7 (by rw[List.take_of_length_le (by have:=d.o;omega),R.o]);clear y;go_wp2;rw[HZ.o];refine⟨f,m,_,k,rfl,?_⟩;rw[<-HE.o];exact u.o
theorem vi(w:World):CZ 198 #[.slice none 0 0] w fun e w'=>e=.returned (.int .i64 0)∧w=w':=by
 go_enter func198,ntmps198;go_wp2;go_loopg[3,4] 0 (fun g a b wr=>g=0∧a=.int .i64 (-1)∧b=.int .i64 0∧w=wr)
 case atStart=>exact⟨rfl,rfl,rfl,rfl⟩
 case round=>
  obtain⟨rfl,rfl,rfl,rfl⟩:=hrel;go_wp2;go_ret;exact⟨rfl,rfl⟩
theorem Aj{w:World}{S:Nat->Prop}{r:Nat}{D:Dk}(h:G9 w S r D)(c:D.Ok)(d:D.pend.length<=1000000000)(a b:ByteArray):
  CZ 281 #[pt r,.string a,.string b] w fun e w'=>e=.returned (.int .i64 ((D.rename a b).2:Nat))∧I1 w S r (D.rename a b).1 w':=by
 obtain⟨j,g,k,f,i,h1,h2⟩:=h;exact(rH h1 c d a b).mono fun e w'⟨a,b⟩=>⟨a,I1.of b h2⟩
theorem vj{w:World}{S:Nat->Prop}{d:Nat}{D D1 D2 g k:Dk}{tmp f name:ByteArray}(u:G9 w S d D)(l:D.Ok)(x:D.pend.length<=1000000000)(v:D.files.length<=1000000000)(y:g.pend.length<=1000000000)(z:f.size<=1099511627776)
  (h1:D.create tmp=(D1,0)) (h2:D1.append tmp f=(D2,0)) (h3:D2.sync tmp=(g,0)) (h4:g.rename tmp name=(k,0)):
  CZ 200 #[pt d,.string tmp,.string f,.string name] w fun e w'=>e=.returned (.int .i64 0)∧I1 w S d k w':=by
 have o1:=l.createOk tmp;rw[h1]at o1;have o2:=Dk.Ok.appendOk o1 tmp f;rw[h2]at o2;have m:=Dk.Ok.syncOk o2 tmp;rw[h3]at m;have A1:Hid (CZ 183 #[pt d,.string tmp] w fun e w'=>e=.returned (.int .i64 0)∧I1 w S d D1 w'):=i7 (by have:=sD u l x v tmp;rw[h1]at this;exact this);have A2:Hid (∀c,I1 w S d D1 c->CZ 248 #[pt d,.string tmp,.string f] c fun e w'=>e=.returned (.int .i64 0)∧I1 w S d D2 w'):=i7 fun c⟨s,h,i,t,j⟩=>by have:=sF h o1 tmp f z;rw[h2]at this;exact this.mono fun e w'⟨a,b⟩=>⟨a,b.next i j⟩
 have A:Hid (∀c,I1 w S d D2 c->CZ 187 #[pt d,.string tmp] c fun e w'=>e=.returned (.int .i64 0)∧I1 w S d g w'):=i7 fun c⟨s,h,i,t,j⟩=>by have:=Ah h o2 tmp;rw[h3]at this;exact this.mono fun e w'⟨a,b⟩=>⟨a,b.next i j⟩
 have B:Hid (∀c,I1 w S d g c->CZ 281 #[pt d,.string tmp,.string name] c fun e w'=>e=.returned (.int .i64 0)∧I1 w S d k w'):=i7 fun c⟨s,h,i,t,j⟩=>by have:=Aj h m y tmp name;rw[h4]at this;exact this.mono fun e w'⟨a,b⟩=>⟨a,b.next i j⟩
 clear u l x v y z h1 h2 h3 h4 o1 o2 m;go_enter func200,ntmps200
 go_wp2_with(first
  |(go_fit A1.o;rintro e c⟨rfl,n⟩;replace n:=i7 n)
  |(go_fit(A2.o _ n.o);rintro e w2⟨rfl,p⟩;replace p:=i7 p)
  |(go_fit(A.o _ p.o);rintro e C⟨rfl,q⟩;replace q:=i7 q)
  |(go_fit(B.o _ q.o);rintro e E⟨rfl,r⟩;replace r:=i7 r))
 go_ret;exact⟨rfl,r.o⟩
theorem kK{d src:Value}{g:I2}{w:World}(h:∀W,TF w W->CZ 61 #[d,src,J3 g] W (RT (.int .i64 1) W)):
  CZ 18 #[d,src,J3 g] w (RT (.int .i64 1) w):=by
 have f:Hid (∀W,TF w W->CZ 61 #[d,src,.agg #[.int .i64 g.h,.int .i64 g.p,.int .i64 g.m,.int .u32 g.seed]] W (RT (.int .i64 1) w)):=fun W t=>(h W t).mono fun e w'⟨a,b⟩=>⟨a,t.tr b⟩
 clear h;go_enter func18,ntmps18;go_wp2_with(go_fit(f.o _ TA);rintro e i⟨rfl,c⟩;replace c:=i7 c);go_ret;exact⟨rfl,c.o⟩
end Go.Proofs.YtofcogekgcgjhaaGreatDoor
