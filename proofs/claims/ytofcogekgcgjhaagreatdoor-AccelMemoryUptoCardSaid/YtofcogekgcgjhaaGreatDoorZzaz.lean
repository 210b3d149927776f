/- Packed. -/
import Derived.Test.YtofcogekgcgjhaaGreatDoorZzay
import Derived.Test.YtofcogekgcgjhaaGreatDoorZzav
set_option maxRecDepth 100000
set_option maxHeartbeats 8000000
namespace Go.Proofs.YtofcogekgcgjhaaGreatDoor
open Go.RowKit Go.Mine Go.Mine.Ac Go.Proofs.Tryz
theorem dt{D:Dk}{s:St}{c:Cm}(h1:s.dead=true):addCommit D s c=(D,s,0,8):=by unfold addCommit;rw[h1];rfl
theorem R0{D:Dk}{s:St}{c:Cm}{k:Nat}(h1:s.dead=false)(h:U0 c=.error k):addCommit D s c=(D,s,0,k):=by unfold addCommit;rw[h1,h];rfl
theorem R4{D:Dk}{s:St}{c:Cm}{b:ByteArray}(h1:s.dead=false)(h:U0 c=.ok b)(a:F9 s c=false):addCommit D s c=(D,s,0,9):=by unfold addCommit;rw[h1,h];simp only[Bool.false_eq_true,if_false];rw[if_pos a]
theorem du{D:Dk}{s:St}{c:Cm}{b:ByteArray}(h1:s.dead=false)(h:U0 c=.ok b)(a:F9 s c=true)(h2:65536<=s.commits.length):addCommit D s c=(D,s,0,7):=by unfold addCommit;rw[h1,h];simp only[Bool.false_eq_true,if_false];rw[if_neg (by rw[a];decide),if_pos h2]
theorem ef{D D1:Dk}{s a:St}{c:Cm}{b:ByteArray}{k:Nat}(h1:s.dead=false)(h:U0 c=.ok b)(d:F9 s c=true)(h2:¬65536<=s.commits.length)(h3:writeS D s 2 b=(D1,a,k))(e:k≠0):addCommit D s c=(D1,a,0,k):=by
  unfold addCommit;rw[h1,h];simp only[Bool.false_eq_true,if_false];rw[if_neg (by rw[d];decide),if_neg h2,h3];cases k with
  |zero=>exact absurd rfl e
  |succ k=>rfl
theorem H4{D D1:Dk}{s a:St}{c:Cm}{b:ByteArray}(h1:s.dead=false)(h:U0 c=.ok b)(d:F9 s c=true)(h2:¬65536<=s.commits.length)(h3:writeS D s 2 b=(D1,a,0)):addCommit D s c=(D1,{a with commits:=a.commits++[c]},((a.commits.length:Nat):Int),0):=by unfold addCommit;rw[h1,h];simp only[Bool.false_eq_true,if_false];rw[if_neg (by rw[d];decide),if_neg h2,h3];rfl
theorem gi{w:World}{g S:Nat->Prop}{d p:Nat}{D:Dk}{rs:Nat->Nat}{tv cv:Value}{s:St}{a:Option Addr}{cap:Nat}{c:Cm}(hD:J0 w g d D)(ab:D.Ok)(h:F4 140 w rs p (pt d) tv cv s)(F:∀b,g b->rs b=0)(U:∀b,g b->b<w.heap.size)
    (M:p7 w S a cap c.par) (hS:∀b,S b->¬g b∧rs b=0) (ac:c.par.length<=1000000000):
    CZ 22 #[pt p,kJ a cap c] w (jF w g rs d p (addCommit D s c)):=by
  obtain⟨Z,hZ⟩:=EX (jF w g rs d p (addCommit D s c));have HZ:Hid (Z=jF w g rs d p (addCommit D s c)):=hZ;rw[<-hZ];obtain⟨N,T⟩:=EX c.par.length;obtain⟨H,aa⟩:=EX c.tree;have V:kJ a cap c=.agg #[.slice a N cap,.int .i64 H]:=by rw[T,aa];rfl
  rw[V];obtain⟨l,I⟩:=EX (w.alloc (.cells #[.slice a N cap,.int .i64 H] 55));have an:Hid (l=w.alloc (.cells #[.slice a N cap,.int .i64 H] 55)):=I;have G:TF w l:=by rw[I];exact TA
  have xV:l.heap[w.heap.size]?=some (.cells #[.slice a N cap,.int .i64 H] 55):=by rw[I];exact i8 _ _
  have Q:=h.r1;have aG:=h.bnd p (by omega);have L:Hid (∀W,d7 (fun b=>g b∨b=p) l W->W.cell? ⟨w.heap.size,0,none⟩=some (.slice a N cap)∧W.cell? ⟨w.heap.size,1,none⟩=some (.int .i64 H)∧w.heap.size<W.heap.size):=fun W q=>by have f:=j9 xV q (fun z=>z.elim (fun z=>by have:=U _ z;omega) fun z=>by omega);exact⟨g9 f 0 _ rfl,g9 f 1 _ rfl,i6 f⟩
  have b0:=L.o l TQ;have P:CZ 66 #[pt p] l fun e w'=>e=.returned (.int .i64 (if s.dead then 8 else 0))∧l=w':=nG (h.turned G fun _ _ q=>q)
  have af:Hid (∀w',TF l w'->fA w g rs d p D s w'):=fun w' q=>fA.stay hD h F U (G.tr q)
  have X:Hid (∀W,TF l W->d7 (fun b=>g b∨b=p) l W):=fun W q=>q.mono fun _ _ z=>z.elim
  cases C:s.dead with
  |true=>have t:Hid (addCommit D s c=(D,s,0,8)):=dt C;rw[C]at P;rw[I]at P af;clear hD ab h F U M hS ac hZ T aa V G xV Q C b0 L X I;go_enter func22,ntmps22;go_wp2_with(go_fit P;rintro e m⟨rfl,rfl⟩);rw[HZ.o];exact⟨by rw[t.o];rfl,by rw[t.o];exact af.o _ TQ⟩
  |false=>
    rw[C]at P;have B:=rV l (M.turned G fun _ _ q=>q);unfold ds at B;rw[V]at B;cases E:U0 c with
    |error k=>
      have t:Hid (addCommit D s c=(D,s,0,k)):=R0 C E;rw[E]at B;have hk:=sd E;have e3:((k:Int)==0)=false:=by simp;omega
      have e4:((k:Int) !=0)=true:=by simp;omega
      unfold exV at B;dsimp only at B;rw[I]at P af B b0;clear hD ab h F U M hS ac hZ T aa V G xV Q C I E hk L X;obtain⟨b1,b2,b3⟩:=b0;go_enter func22,ntmps22;go_wp2_with(first|(go_fit P;rintro e m⟨rfl,rfl⟩)|(go_fit B;rintro e m⟨rfl,q⟩;replace q:=i7 q));rw[HZ.o];exact⟨by rw[t.o];rfl,by rw[t.o];exact af.o _ q.o⟩
    |ok body=>
      rw[E]at B;unfold exV at B;dsimp only at B;have am:Hid (CZ 70 #[.agg #[.slice a N cap,.int .i64 H]] l (RT (.tuple #[.string body,.int .i64 0]) l)):=B;have ae:Hid (∀W,TF l W->CZ 71 #[pt p,.agg #[.slice a N cap,.int .i64 H]] W (RT (.bool (F9 s c)) l)):=fun W q=>by have t0:TF w W:=G.tr q;have:=uN (h.turned t0 fun _ _ z=>z) (M.turned t0 fun _ _ z=>z) (c:=c);rw[V]at this;exact this.mono fun e w'⟨x,y⟩=>⟨x,q.tr y⟩
      obtain⟨aw,ah,al⟩:=h.commits;obtain⟨ta,R,rfl,-,-⟩:=ah.value;obtain⟨n,J⟩:=EX s.commits.length;have C1:Hid (∀W,TF l W->W.cell? ⟨p,2,none⟩=some (.slice ta n R)∧p<W.heap.size):=fun W q=>by have f:=(h.turned (G.tr q) fun _ _ z=>z).blk;rw[<-J]at f;exact⟨g9 f 2 _ rfl,i6 f⟩
      cases O:F9 s c with
      |false=>
        have t:Hid (addCommit D s c=(D,s,0,9)):=R4 C E O;rw[O]at ae;have aj:Hid (∀W,TF l W->W.cell? ⟨w.heap.size,0,none⟩=some (.slice a N cap)∧W.cell? ⟨w.heap.size,1,none⟩=some (.int .i64 H)∧w.heap.size<W.heap.size):=fun W q=>L.o W (X.o W q)
        clear hD ab h F U M hS ac hZ T aa V G xV Q C I E L X B ah al J O C1;obtain⟨b1,b2,b3⟩:=b0;go_enter func22,ntmps22;go_wp2_with fail;rw[<-an.o];go_wp2_with(first|(go_fit P;rintro e m⟨rfl,rfl⟩)|(go_fit am.o;rintro e m⟨rfl,q⟩;obtain⟨x1,x2,x3⟩:=aj.o m q;replace q:=i7 q)|(go_fit(ae.o _ q.o);rintro e w2⟨rfl,j⟩;replace j:=i7 j));rw[HZ.o];exact⟨by rw[t.o];rfl,by rw[t.o];exact af.o _ j.o⟩
      |true=>
        rw[O]at ae;have aj:Hid (∀W,TF l W->W.cell? ⟨w.heap.size,0,none⟩=some (.slice a N cap)∧W.cell? ⟨w.heap.size,1,none⟩=some (.int .i64 H)∧w.heap.size<W.heap.size):=fun W q=>L.o W (X.o W q)
        by_cases ag:65536<=n
        ·have t:Hid (addCommit D s c=(D,s,0,7)):=du C E O (by rw[<-J];exact ag);have d1:decide ((65536:Int)<=(n:Int))=true:=by simp;omega
         have d2:decide (65536<=n)=true:=by simp;omega
         clear hD ab h F U M hS ac hZ T aa V G xV Q C I E L X B ah al J O ag;obtain⟨b1,b2,b3⟩:=b0;go_enter func22,ntmps22;go_wp2_with fail;rw[<-an.o];go_wp2_with(first|(go_fit P;rintro e m⟨rfl,rfl⟩)|(go_fit am.o;rintro e m⟨rfl,q⟩;obtain⟨x1,x2,x3⟩:=aj.o m q;replace q:=i7 q)|(go_fit(ae.o _ q.o);rintro e w2⟨rfl,j⟩;obtain⟨k1,k2⟩:=C1.o _ j;replace j:=i7 j));rw[HZ.o];exact⟨by rw[t.o];rfl,by rw[t.o];exact af.o _ j.o⟩
        ·have f:=jE E;obtain⟨D1,A,K,ai⟩:∃D1 A K,writeS D s 2 body=(D1,A,K):=⟨_,_,_,rfl⟩;have aB:=O6 D s 2 body
         have HW:Hid (∀m,TF l m->CZ 68 #[pt p,.int .i64 2,.string body] m fun e w'=>e=.returned (.int .i64 (K:Nat))∧eE w g d p rs tv (.slice ta n R) D1 A w'∧d7 (fun b=>g b∨b=p) l w'):=fun m qV=>by
           have q:TF w m:=G.tr qV;have:=ml (hD.turned q fun _ _ z=>z) ab (h.turned q fun _ _ z=>z) F (fun b f=>LC (U b f) q.size) 2 body (by omega) (by omega) (by omega) (by rw[K0];omega);rw[ai]at this;refine this.mono fun e w'⟨x,y⟩=>⟨x,by rw[J];exact y.after q,?_⟩
           obtain⟨_,_,_,_,_,y⟩:=y;exact qV.comp y fun i _ z=>z.elim False.elim id
         rw[ai]at aB;obtain⟨au,ak⟩:=aB;dsimp only at au ak;have d1:decide ((65536:Int)<=(n:Int))=false:=by simp;omega
         have d2:decide (65536<=n)=false:=by simp;omega
         by_cases hK:K=0
         ·subst hK;have t:Hid (addCommit D s c=(D1,{A with commits:=A.commits++[c]},((A.commits.length:Nat):Int),0)):=H4 C E O (by rw[<-J];exact ag) ai;have ao:A.commits.length=n:=by rw[ak,J]
          have HN:Hid (A.commits.length=n):=ao;have HX:Hid (∀w2,eE w g d p rs tv (.slice ta n R) D1 A w2->d7 (fun b=>g b∨b=p) w w2∧w2.cell? ⟨p,2,none⟩=some (.slice ta n R)∧p<w2.heap.size):=fun w2 q=>by obtain⟨S1,g1,g2,g3,g4,g5⟩:=q;exact⟨g5,g9 g4.blk 2 _ rfl,i6 g4.blk⟩
          have az:∀b,S b->¬(g b∨b=p):=fun b f q=>q.elim (hS b f).1 fun q=>by have:=(hS b f).2;rw[q,Q]at this;omega
          have ap:∀{w2},d7 (fun b=>g b∨b=p) w w2->Sl w2 (fun b=>rs b=3) 55 2 (.slice ta n R) aw n:=fun q=>by
            rw[J];refine ah.turned q fun b f z=>?_
            rcases z with z|z
            ·have:=F b z;omega
            ·rw[z,Q]at f;omega
          have ax:Hid (∀w2 W,d7 (fun b=>g b∨b=p) w w2->TF w2 W->CZ 65 #[.slice a N cap] W fun e w'=>∃v,e=.returned v∧Sl w' (fun b=>w2.heap.size<=b) 3 1 v (ic c.par) N∧TF w2 w'):=fun w2 W j q=>by
            have aA:p7 W S a cap c.par:=(M.turned j az).turned q fun _ _ z=>z
            rw[T];refine(dj (a:=a) (n:=c.par.length) (cap:=cap) (xs:=ic c.par) W (fun w' z=>ez (aA.turned z fun _ _ y=>y)) (fun z=>by subst z;exact lN aA) ac).mono fun e w'⟨v,x1,x2,x3⟩=>⟨v,x1,x2.widen fun b f=>LR q.size f,q.tr x3⟩
          have aD:Hid (∀w2 W,d7 (fun b=>g b∨b=p) w w2->TF w2 W->Sl W (fun b=>rs b=3) 55 2 (.slice ta n R) aw n):=fun w2 W j q=>(ap j).turned q fun _ _ z=>z
          have ay:Hid (∀w2 w3 r,TF w2 w3->d7 (fun b=>rs b=3) w3 r->eE w g d p rs tv (.slice ta n R) D1 A w2->r.cell? ⟨p,2,none⟩=some (.slice ta n R)∧r.frozen? ⟨p,2,none⟩=false∧p<r.heap.size):=fun w2 w3 r q3 q4 z=>by obtain⟨S1,g1,g2,g3,g4,g5⟩:=z;have f:=j9 (j9 g4.blk q3 id) q4 (by rw[Q];decide);exact⟨g9 f 2 _ rfl,j7 f 2,i6 f⟩
          have aC:Hid (∀w2 w3 W3 r v v',eE w g d p rs tv (.slice ta n R) D1 A w2->TF w2 w3->Sl w3 (fun b=>w2.heap.size<=b) 3 1 v (ic c.par) N->TF w3 W3->d7 (fun b=>rs b=3) W3 r->Sl r (F2 (fun b=>rs b=3) W3) 55 2 v' (aw++[v,.int .i64 H]) (n+1)->fA w g rs d p D1 {A with commits:=A.commits++[c]} (r.setCell ⟨p,2,none⟩ v')):=fun w2 w3 W3 r v v' q1 j q3 q4 q5 q6=>by
            have hT:d7 (fun b=>g b∨b=p) w w2:=by obtain⟨_,_,_,_,_,z⟩:=q1;exact z
            refine se q1 F h.bnd M.2.2.1 (by rw[ao];exact ap hT) (fun i u hu=>?_) j (by rw[<-T];exact q3) q4 q5 (by rw[ao,<-aa];exact q6);rw[ak]at hu;obtain⟨a',aF,e1,e3,e2⟩:=al i u hu;refine⟨a',aF,e1,e3,e2.turned hT fun b f z=>?_⟩;rcases z with z|z
            ·have:=F b z;omega
            ·rw[z,Q]at f;omega
          have m1:Hid (n+1<=maxLen∧(n+1)*32<=140737488355328):=i7 ⟨by simp only[maxLen];omega,by omega⟩;have aE:Hid (wrap64 ((n:Nat):Int)=(n:Int)):=i7 (by simp only[wrap64];omega);clear hD ab h F U M hS ac hZ T aa V G xV Q C I E X B ah al J O ag f au ak ai ao az ap;obtain⟨b1,b2,b3⟩:=b0;go_enter func22,ntmps22;go_wp2_with fail;rw[<-an.o];go_wp2_with(first|(go_fit P;rintro e m⟨rfl,rfl⟩)|(go_fit am.o;rintro e m⟨rfl,q⟩;obtain⟨x1,x2,x3⟩:=aj.o m q;replace q:=i7 q)|(go_fit(ae.o _ q.o);rintro e w2⟨rfl,j⟩;obtain⟨k1,k2⟩:=C1.o _ j;replace j:=i7 j)|(go_fit(HW.o _ j.o);rintro e w3⟨rfl,z,tz⟩;obtain⟨f1,f2,f3⟩:=L.o w3 tz;obtain⟨y1,y2,y3⟩:=HX.o _ z;replace y1:=i7 y1;replace tz:=i7 tz;replace z:=i7 z;clear b1 b2 b3 x1 x2 x3 k1 k2 aG));go_region_law ((first|(go_simp;go_at_call 65;(first|(with_reducible refine(ax.o _ _ y1.o TQ).mono ?_)|(with_reducible refine(ax.o _ _ y1.o TD).mono ?_));rintro e r⟨v,rfl,aq,ht⟩;obtain⟨ca,cc,rfl,-,-⟩:=aq.value;obtain⟨u1,u2,u3⟩:=ay.o w3 r r ht TQ z.o;obtain⟨g1,g2,g3⟩:=L.o r (tz.o.comp ht (fun _ _ q=>q.elim id False.elim));have Y:Hid (Sl r (fun b=>w3.heap.size<=b) 3 1 (.slice ca N cc) (ic c.par) N∧TF w3 r):=⟨aq,ht⟩;clear aq ht)|(refine o5 (by rfl) _ _ 76 76 (by rfl) (aD.o w3 _ y1.o (Y.o.2.new _)) underlying76 info55 rfl (by decide) (by rfl) (.slice (some ⟨r.heap.size,0,none⟩) 1 1) (by rfl) (G5 55 underlying76 [.slice ca N cc,.int .i64 H] (by simp[Value.oneCell']) r) m1.o.1 m1.o.2 ?_;intro v' w5 ar av;obtain⟨a4,c4,rfl,-,-⟩:=ar.value;obtain⟨y4,y5,y6⟩:=ay.o w3 _ w5 (Y.o.2.new _) av z.o;have Y4:=i7 (aC.o w3 r _ w5 _ _ z.o Y.o.2 Y.o.1 TA av ar);clear ar av)))
          all_goals go_wp2
          all_goals rw[HZ.o]
          all_goals exact⟨by rw[t.o];dsimp only;rw[HN.o];exact congrArg (fun i:Int=>Ending.returned (.tuple #[.int .i64 i,.int .i64 0])) aE.o,by rw[t.o];exact Y4.o⟩
         ·have t:Hid (addCommit D s c=(D1,A,0,K)):=ef C E O (by rw[<-J];exact ag) ai hK;have AD:Hid (∀w',eE w g d p rs tv (.slice ta n R) D1 A w'->fA w g rs d p D1 A w'):=fun w' q=>q.ad F h.bnd
          have e3:((K:Int)==0)=false:=by simp;omega
          have e4:((K:Int) !=0)=true:=by simp;omega
          clear hD ab h F U M hS ac hZ T aa V G xV Q C I E L X B ah al J O ag f au ak ai hK;obtain⟨b1,b2,b3⟩:=b0;go_enter func22,ntmps22;go_wp2_with fail;rw[<-an.o];go_wp2_with(first|(go_fit P;rintro e m⟨rfl,rfl⟩)|(go_fit am.o;rintro e m⟨rfl,q⟩;obtain⟨x1,x2,x3⟩:=aj.o m q;replace q:=i7 q)|(go_fit(ae.o _ q.o);rintro e w2⟨rfl,j⟩;obtain⟨k1,k2⟩:=C1.o _ j;replace j:=i7 j)|(go_fit(HW.o _ j.o);rintro e w3⟨rfl,z,-⟩;replace z:=i7 z));rw[HZ.o];exact⟨by rw[t.o];rfl,by rw[t.o];exact AD.o _ z.o⟩
theorem po{w:World}{g b f:Nat}(a:w.heap[g]?=some (.cells #[.func (.func 73) #[] #[pt b],.func (.func 74) #[pt f] #[]] 137)){d:World->Prop}{k:Nat}(i:k≠0)
  (h1:CZ 73 #[pt b] w fun e w'=>e=.returned (.int .i64 k)∧d w'):
  CZ 72 #[.slice (some ⟨g,0,none⟩) 2 2] w fun e w'=>e=.returned (.int .i64 k)∧d w':=by
 have l:w.cell? ⟨g,0,none⟩=some (.func (.func 73) #[] #[pt b]):=g9 a 0 _ rfl;have m:w.cell? ⟨g,1,none⟩=some (.func (.func 74) #[pt f] #[]):=g9 a 1 _ rfl;have r:=i6 a;have n:((k:Int)==0)=false:=by simp;omega
 have p:((k:Int) !=0)=true:=by simp;omega
 have h:=i7 h1;have c:Hid (ge w (fun _=>False) (fun _=>False) 2 (.int .i64 0) w):=.inl ⟨rfl,rfl,rfl⟩;clear a h1 i;go_enter func72,ntmps72;go_wp2;go_loopg[8] 2 (fun g j wr=>ge w (fun _=>False) (fun _=>False) g j wr)
 case atStart=>exact c.o
 case round=>
  rcases hrel with⟨rfl,rfl,rfl⟩|⟨rfl,rfl,q⟩|⟨rfl,rfl,q⟩
  ·clear c;go_wp2_with(go_fit h.o;rintro e w'⟨rfl,q⟩;replace q:=i7 q);go_ret;exact⟨rfl,q.o⟩
  ·exact q.elim
  ·exact q.elim
theorem pq{w:World}{g l i:Nat}(c:w.heap[g]?=some (.cells #[.func (.func 73) #[] #[pt l],.func (.func 74) #[pt i] #[]] 137)){h Q1:World->Prop}{k:Nat}{T:Nat->Prop}(t:¬T g)
  (h1:CZ 73 #[pt l] w fun e w'=>e=.returned (.int .i64 0)∧Q1 w'∧d7 T w w')
  (h2:∀a,Q1 a->d7 T w a->CZ 74 #[pt i] a fun e w'=>e=.returned (.int .i64 k)∧h w'):
  CZ 72 #[.slice (some ⟨g,0,none⟩) 2 2] w fun e w'=>e=.returned (.int .i64 k)∧h w':=by
 have r:w.cell? ⟨g,0,none⟩=some (.func (.func 73) #[] #[pt l]):=g9 c 0 _ rfl;have s:w.cell? ⟨g,1,none⟩=some (.func (.func 74) #[pt i] #[]):=g9 c 1 _ rfl;have y:=i6 c;have v:Hid (∀a,d7 T w a->a.cell? ⟨g,1,none⟩=some (.func (.func 74) #[pt i] #[])∧g<a.heap.size):=fun a q=>by have:=j9 c q t;exact⟨g9 this 1 _ rfl,i6 this⟩
 have u:=i7 h1;have n:=i7 h2;obtain⟨R,m⟩:∃R:Ending->World->Prop,R=fun e w'=>e=.returned (.int .i64 k)∧h w':=⟨_,rfl⟩
 have d:Hid (ge w (fun a=>Q1 a∧d7 T w a) (R (.returned (.int .i64 0))) 2 (.int .i64 0) w):=.inl ⟨rfl,rfl,rfl⟩;have p:Hid (R=fun e w'=>e=.returned (.int .i64 k)∧h w'):=m;rw[<-m];clear c h1 h2 m t;go_enter func72,ntmps72;go_wp2;go_loopg[8] 2 (fun g z wr=>ge w (fun a=>Q1 a∧d7 T w a) (R (.returned (.int .i64 0))) g z wr)
 case atStart=>exact d.o
 case round=>
  rcases hrel with⟨rfl,rfl,rfl⟩|⟨rfl,rfl,q⟩|⟨rfl,rfl,q⟩
  ·clear d;go_wp2_with(go_fit u.o;rintro e w'⟨rfl,q⟩;replace q:=i7 q);go_roundg 1
   case measure=>omega
   case rel=>exact .inr (.inl ⟨rfl,rfl,q.o⟩)
  ·have b:Hid (Q1 wr∧d7 T w wr):=q;obtain⟨d1,d2⟩:=v.o wr q.2;clear r s y d q;by_cases j:k=0
   ·have f:=n.o wr b.o.1 b.o.2;have x:Hid (k=0):=j;rw[j]at f;clear j;go_wp2_with(go_fit f;rintro e w'⟨rfl,q⟩;replace q:=i7 q);go_roundg 0
    case measure=>omega
    case rel=>exact .inr (.inr ⟨rfl,rfl,by rw[p.o];exact⟨by rw[x.o];rfl,q.o⟩⟩)
   ·have f:=n.o wr b.o.1 b.o.2;have A:((k:Int)==0)=false:=by simp;omega
    have B:((k:Int) !=0)=true:=by simp;omega
    clear j;go_wp2_with(go_fit f;rintro e w'⟨rfl,q⟩;replace q:=i7 q);rw[p.o];exact⟨rfl,q.o⟩
  ·clear d r s;have b:Hid (R (.returned (.int .i64 0)) wr):=q;clear q;go_wp2;exact b.o
theorem sf{w:World}{S:Nat->Prop}{d:Nat}{D:Dk}(h:J0 w S d D)(f:D.Ok)(g:D.pend.length<=1000000000)(c:D.files.length<=1000000000)(name:ByteArray):
  CZ 33 #[pt d,.string name] w fun e w'=>e=.returned (.int .i64 ((D.create name).2:Nat))∧A9 w S d (D.create name).1 w':=by
 obtain⟨l,j,i,k,F,h1,h2⟩:=h;exact(rh h1 f g c name).mono fun e w'⟨a,b⟩=>⟨a,A9.of b h2⟩
theorem uO{w:World}{S:Nat->Prop}{d:Nat}{D:Dk}(h:J0 w S d D)(name:ByteArray):
  CZ 27 #[pt d,.string name] w fun e w'=>e=.returned (.tuple #[.string (D.read name).1,.int .i64 ((D.read name).2:Nat)])∧w=w':=by
 obtain⟨f,b,a,c,F,h1,h2⟩:=h;exact xz h1 name
theorem wF{w:World}{b d:Nat}{k:Nat}{a:World->Prop}(g:w.cell? ⟨b,0,none⟩=some (pt d))
  (c:∀W,TF w W->CZ 33 #[pt d,.string ⟨#[108,111,103]⟩] W fun e w'=>e=.returned (.int .i64 k)∧a w'):
  CZ 73 #[pt b] w fun e w'=>e=.returned (.int .i64 k)∧a w':=by
 have h:=n7 g;have f:=c w TQ;clear c;go_enter func73,ntmps73;go_wp2_with(go_fit f;rintro e w'⟨rfl,q⟩;replace q:=i7 q);go_ret;exact⟨rfl,q.o⟩
theorem uP{D D1:Dk}{k:Nat}(a:(D.read logB).2=6)(h:D.create logB=(D1,k))(b:k≠0):fp D=(D1,.error k):=by
 unfold fp;obtain⟨x,y,c⟩:∃x y,D.read logB=(x,y):=⟨_,_,rfl⟩;rw[c]at a ⊢;dsimp only at a;subst a;simp only[];rw[h];cases k with
 |zero=>exact absurd rfl b
 |succ k=>rfl
theorem yg{D D1 D2:Dk}{k:Nat}(a:(D.read logB).2=6)(h:D.create logB=(D1,0))(h2:D1.syncNames=(D2,k))(b:k≠0):fp D=(D2,.error k):=by
 unfold fp;obtain⟨x,y,c⟩:∃x y,D.read logB=(x,y):=⟨_,_,rfl⟩;rw[c]at a ⊢;dsimp only at a;subst a;simp only[];rw[h];simp only[];rw[h2];cases k with
 |zero=>exact absurd rfl b
 |succ k=>rfl
theorem uQ{D D1 D2:Dk}(a:(D.read logB).2=6)(h:D.create logB=(D1,0))(h2:D1.syncNames=(D2,0)):fp D=(D2,.ok noSt):=by unfold fp;obtain⟨x,y,b⟩:∃x y,D.read logB=(x,y):=⟨_,_,rfl⟩;rw[b]at a ⊢;dsimp only at a;subst a;simp only[];rw[h];simp only[];rw[h2];rfl
def uR(w:World)(c:Nat->Prop)(d:Nat)(r:Dk×Except Nat St)(e:Ending)(w':World):Prop:=
 ∃a,J0 w' a d r.1∧(∀b,a b->c b∨w.heap.size<=b)∧(∀b,a b->b<w'.heap.size)∧d7 c w w'∧match r.2 with
  | .error k=>e=.returned (.tuple #[.pointer none,.int .i64 k])
  | .ok s=>∃p rs g f,e=.returned (.tuple #[pt p,.int .i64 0])∧F4 140 w' rs p (pt d) g f s∧∀b,rs b≠0->w.heap.size<=b∧¬a b
theorem iX{w:World}{f:Nat->Prop}{d:Nat}{D:Dk}(u:J0 w f d D)(R:D.Ok)(hp:D.pend.length<=1000000000)(ac:D.files.length<=1000000000)(x:∀b,f b->b<w.heap.size)(N:D.read logB=(emp,6)):
  CZ 25 #[pt d] w (uR w f d (fp D)):=by
 obtain⟨Z,O⟩:=EX (uR w f d (fp D));have HZ:Hid (Z=uR w f d (fp D)):=O;rw[<-O];have hd:d<w.heap.size:=by obtain⟨rl,ms,mf,pv,F,h1,h2⟩:=u;exact h1.bnd d (by rw[h1.r1];decide)
 obtain⟨c,v⟩:=EX ((w.alloc (.cells #[pt d] 33)).alloc (.cells #[pt d,.slice none 0 0,.slice none 0 0,.bool false] 140));have ab:Hid (c=(w.alloc (.cells #[pt d] 33)).alloc (.cells #[pt d,.slice none 0 0,.slice none 0 0,.bool false] 140)):=v;obtain⟨C,p,X⟩:=p8 (w:=w) (.cells #[pt d] 33) (.cells #[pt d,.slice none 0 0,.slice none 0 0,.bool false] 140);rw[<-v]at C p X;have zV:c.heap.size=w.heap.size+2:=by rw[v];simp
 have S:=uO (u.turned C fun _ _ q=>q) logB;rw[N]at S;have aa:Hid (CZ 27 #[pt d,.string ⟨#[108,111,103]⟩] c fun e w'=>e=.returned (.tuple #[.string ⟨#[]⟩,.int .i64 6])∧c=w'):=S;obtain⟨B,Y⟩:=A0 (w:=c) (.cells #[.func (.func 73) #[] #[pt w.heap.size],.func (.func 74) #[pt d] #[]] 137);have V:=C.tr B;have DW:=u.turned V fun _ _ q=>q
 have K:=g9 (j9 p B id) 0 _ rfl;have m:=fun W(q:TF (c.alloc (.cells #[.func (.func 73) #[] #[pt w.heap.size],.func (.func 74) #[pt d] #[]] 137)) W)=>(sf (DW.turned q fun _ _ z=>z) R hp ac logB).mono fun e w'(z:_∧_)=>(⟨z.1,z.2.after (q.mono fun _ _ y=>y.elim)⟩:_∧A9 (c.alloc (.cells #[.func (.func 73) #[] #[pt w.heap.size],.func (.func 74) #[pt d] #[]] 137)) f d (D.create logB).1 w')
 have A:=R.createOk logB;have s:(D.read logB).2=6:=by rw[N]
 obtain⟨D1,k1,n⟩:∃D1 k1,D.create logB=(D1,k1):=⟨_,_,rfl⟩;rw[n]at m A;dsimp only at m A;obtain⟨D',h,hF,hS⟩:∃(D':Dk)(h:Nat),(CZ 72 #[.slice (some ⟨c.heap.size,0,none⟩) 2 2] (c.alloc (.cells #[.func (.func 73) #[] #[pt w.heap.size],.func (.func 74) #[pt d] #[]] 137)) fun e w'=>e=.returned (.int .i64 (h:Nat))∧A9 (c.alloc (.cells #[.func (.func 73) #[] #[pt w.heap.size],.func (.func 74) #[pt d] #[]] 137)) f d D' w')∧fp D=(D',if h=0 then .ok noSt else .error h):=by
  by_cases g:k1=0
  ·subst g;obtain⟨D2,k2,U⟩:∃D2 k2,D1.syncNames=(D2,k2):=⟨_,_,rfl⟩;refine⟨D2,k2,pq Y (T:=f) (Q1:=fun E=>A9 (c.alloc (.cells #[.func (.func 73) #[] #[pt w.heap.size],.func (.func 74) #[pt d] #[]] 137)) f d D1 E) (fun q=>by have:=x _ q;omega) ((wF K m).mono fun e w'⟨a,b⟩=>⟨a,b,?_⟩) fun E q1 t1=>?_,?_⟩
   ·obtain⟨_,_,_,_,t⟩:=b;exact t
   ·obtain⟨S1,L,r,g3,M⟩:=q1;have hs:=kw L A;rw[U]at hs;exact hs.mono fun e w'⟨a,b⟩=>⟨a,b.next r t1⟩
   ·by_cases Q:k2=0
    ·subst Q;rw[if_pos rfl];exact uQ s n U
    ·rw[if_neg Q];exact yg s n U Q
  ·exact⟨D1,k1,po Y g (wF K m),by rw[if_neg g];exact uP s n g⟩
 have k:Hid (fp D=(D',if h=0 then .ok noSt else .error h)):=hS;have HF:=i7 hF;have HE:Hid (∀w2,A9 (c.alloc (.cells #[.func (.func 73) #[] #[pt w.heap.size],.func (.func 74) #[pt d] #[]] 137)) f d D' w2->∃j,J0 w2 j d D'∧(∀b,j b->f b∨w.heap.size<=b)∧(∀b,j b->b<w2.heap.size)∧d7 f w w2∧∃rs,F4 140 w2 rs (w.heap.size+1) (pt d) (.slice none 0 0) (.slice none 0 0) noSt∧∀b,rs b≠0->w.heap.size<=b∧¬j b):=fun w2 q=>by
  obtain⟨S1,L,r,g3,M⟩:=q;have hz:(c.alloc (.cells #[.func (.func 73) #[] #[pt w.heap.size],.func (.func 74) #[pt d] #[]] 137)).heap.size=w.heap.size+3:=by simp[zV]
  have hx:w2.heap[w.heap.size+1]?=some (.cells #[pt d,.slice none 0 0,.slice none 0 0,.bool false] 140):=j9 (j9 X B id) M (fun q=>by have:=x _ q;omega);refine⟨S1,L,fun b l=>(r b l).imp id fun q=>by omega,g3,(V.mono fun _ _ q=>q.elim).tr M,fun b=>if b=w.heap.size+1 then 1 else 0,⟨if_pos rfl,hx,⟨[],Sl.nil _ _ _ _,fun i t P=>by simp[noSt]at P⟩,⟨[],Sl.nil _ _ _ _,fun i t P=>by simp[noSt]at P⟩,fun b l=>?_⟩,fun b l=>?_⟩
  ·by_cases q:b=w.heap.size+1
   ·rw[q];exact i6 hx
   ·simp[q]at l
  ·by_cases q:b=w.heap.size+1
   ·refine⟨by omega,fun z=>?_⟩;rcases r b z with y|y
    ·have:=x _ y;omega
    ·omega
   ·simp[q]at l
 have cV:c.cell? ⟨w.heap.size,0,none⟩=some (pt d):=g9 p 0 _ rfl;have lV:=i6 p;clear u R hp ac x N O v C p X zV S B Y V DW K m A s n hF hS;by_cases g:h=0
 ·rw[if_pos g]at k;subst g;go_enter func25,ntmps25;go_wp2_with fail;rw[<-ab.o];go_wp2_with(first|(go_fit aa.o;rintro e E⟨rfl,rfl⟩)|(go_fit HF.o;rintro e w2⟨rfl,q⟩;replace q:=i7 q));rw[HZ.o];obtain⟨j,G,H,I,J,rs,a5,a6⟩:=HE.o w2 q.o;refine⟨j,by rw[k.o];exact G,H,I,J,?_⟩;rw[k.o];exact⟨w.heap.size+1,rs,_,_,rfl,a5,a6⟩
 ·rw[if_neg g]at k;have e3:((h:Int)==0)=false:=by simp;omega
  have e4:((h:Int) !=0)=true:=by simp;omega
  clear g;go_enter func25,ntmps25;go_wp2_with fail;rw[<-ab.o];go_wp2_with(first|(go_fit aa.o;rintro e E⟨rfl,rfl⟩)|(go_fit HF.o;rintro e w2⟨rfl,q⟩;replace q:=i7 q));rw[HZ.o];obtain⟨j,G,H,I,J,-⟩:=HE.o w2 q.o;refine⟨j,by rw[k.o];exact G,H,I,J,?_⟩;rw[k.o];rfl
def chainB:ByteArray:=⟨#[99,104,97,105,110]⟩
theorem Da{w:World}{S:Nat->Prop}{d:Nat}{D:Dk}(h:J0 w S d D):CZ 53 #[pt d] w fun e w'=>e=.returned (.bool D.off)∧w=w':=by obtain⟨f,b,a,c,F,h1,h2⟩:=h;exact zw h1
def pr(w:World)(d:Nat)(e:Ending)(w':World):Prop:=∃p,e=.returned (.tuple #[pt p,.int .i64 0])∧w.heap.size<=p∧p<w'.heap.size∧ed w' (fun b=>if b=p then 1 else 0) p (pt d) (.slice none 0 0) (.slice none 0 0) noIx∧TF w w'
theorem ps{w:World}{S:Nat->Prop}{d:Nat}{D:Dk}{t:ByteArray}{k:Nat}(j:J0 w S d D)(p:D.off=false)(s:D.read chainB=(t,k))(C:k≠0)(n:Int):CZ 13 #[pt d,.int .i64 n] w (pr w d):=by
 obtain⟨z,l⟩:=EX (pr w d);have y:Hid (z=pr w d):=l;rw[<-l];have r:=Da j;rw[p]at r;obtain⟨h,a⟩:=EX (w.alloc (.cells #[pt d,.slice none 0 0,.slice none 0 0] 116));have x:Hid (h=w.alloc (.cells #[pt d,.slice none 0 0,.slice none 0 0] 116)):=a;have m:TF w h:=by rw[a];exact TA
 have f:h.heap[w.heap.size]?=some (.cells #[pt d,.slice none 0 0,.slice none 0 0] 116):=by rw[a];exact i8 _ _
 have c:=uO (j.turned m fun _ _ q=>q) chainB;rw[s]at c;dsimp only at c;have v:Hid (CZ 27 #[pt d,.string ⟨#[99,104,97,105,110]⟩] (w.alloc (.cells #[pt d,.slice none 0 0,.slice none 0 0] 116)) fun e w'=>e=.returned (.tuple #[.string t,.int .i64 k])∧w.alloc (.cells #[pt d,.slice none 0 0,.slice none 0 0] 116)=w'):=by rw[<-a];exact c
 have F:((k:Int)==0)=false:=by simp;omega
 have G:((k:Int) !=0)=true:=by simp;omega
 have u:Hid (pr w d (.returned (.tuple #[pt w.heap.size,.int .i64 0])) (w.alloc (.cells #[pt d,.slice none 0 0,.slice none 0 0] 116))):=i7 (by
  rw[<-a];refine⟨w.heap.size,rfl,LS _,i6 f,⟨if_pos rfl,f,Sl.nil _ _ _ _,⟨[],Sl.nil _ _ _ _,fun i g B=>by simp[noIx]at B⟩,fun b A=>?_⟩,m⟩;by_cases q:b=w.heap.size
  ·rw[q];exact i6 f
  ·simp[q]at A)
 clear l j p s C a m f c x;go_enter func13,ntmps13;go_wp2_with(first|(go_fit r;rintro e E⟨rfl,rfl⟩)|(go_fit v.o;rintro e E⟨rfl,rfl⟩));rw[y.o];exact u.o
end Go.Proofs.YtofcogekgcgjhaaGreatDoor
