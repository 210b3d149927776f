/- Packed. -/
import Derived.Test.YtofcogekgcgjhaaGreatDoorZzaz
import Derived.Test.YtofcogekgcgjhaaGreatDoorZzbb
set_option maxRecDepth 100000
set_option maxHeartbeats 8000000
namespace Go.Proofs.YtofcogekgcgjhaaGreatDoor
open Go.RowKit Go.Mine Go.Mine.Ac Go.Proofs.Tryz
theorem wJ(n:Int)(w:World):CZ 312 #[.int .i64 n] w fun e w'=>e=.returned (.bool (decide (kP n)))∧w=w':=by
  obtain⟨b,c⟩:=EX (decide (kP n));have a:Hid (b=decide (kP n)):=c;rw[<-c];clear c;by_cases h1:0<=n
  ·have d:decide (0<=n)=true:=LX h1;by_cases h2:n<65536
   ·have f:decide (n<65536)=true:=LX h2;obtain rfl:true=b:=by rw[a.o];exact(LX ⟨h1,h2⟩).symm
    go_enter func312,ntmps312;go_wp2;go_ret;exact⟨rfl,rfl⟩
   ·have f:decide (n<65536)=false:=LD h2;obtain rfl:false=b:=by rw[a.o];exact(LD fun q=>h2 q.2).symm
    go_enter func312,ntmps312;go_wp2;go_ret;exact⟨rfl,rfl⟩
  ·have d:decide (0<=n)=false:=LD h1;obtain rfl:false=b:=by rw[a.o];exact(LD fun q=>h1 q.1).symm
   go_enter func312,ntmps312;go_wp2;go_ret;exact⟨rfl,rfl⟩
def Dg(b:World)(l:List Int)(g:Nat)(a:Value)(wr:World):Prop:=∃j:Nat,a=.int .i64 j∧j+g=l.length∧checkP [] l=checkP (l.take j) (l.drop j)∧TF b wr
def Dh(b:World)(l:List Int)(j:Nat)(p:Int)(g:Nat)(a:Value)(wr:World):Prop:=∃k:Nat,a=.int .i64 k∧k+g=j∧p ∉ l.take k∧TF b wr
theorem sy{S:Nat->Prop}{a:Option Addr}{cap:Nat}{c:Cm}(w:World)(h:p7 w S a cap c.par):CZ 249 #[kJ a cap c] w (eU w c):=by
  obtain⟨D,R⟩:=EX (eU w c);have u:Hid (D=eU w c):=R;rw[<-R];obtain⟨par,tree⟩:=c;unfold kJ;dsimp only at h ⊢;have P:Hid (p7 w S a cap par):=h;obtain⟨L,y⟩:=EX par.length;have v:Hid (L=par.length):=y;rw[<-y];clear R h;by_cases h1:16<L
  ·have e1:decide ((16:Int)<(L:Int))=true:=LX (by omega);have e2:decide (16<L)=true:=LX (by omega);have i:Hid (D8 ⟨par,tree⟩=5):=i7 (by unfold D8;rw[if_pos (by simp only;omega)]);clear h1 y;go_enter func249,ntmps249;go_wp2;rw[u.o];exact⟨by rw[i.o];rfl,TA⟩
  have e1:decide ((16:Int)<(L:Int))=false:=LD (by omega);have e2:decide (16<L)=false:=LD (by omega);have Z:Hid (L<=16):=i7 (by omega);have A:=fun W=>wJ tree W
  by_cases h2:kP tree
  ·rw[decide_eq_true h2]at A;have i:Hid (D8 ⟨par,tree⟩=checkP [] par):=i7 (by unfold D8;rw[if_neg (by simp only;omega),if_neg fun q=>q h2]);obtain⟨d,T⟩:=EX (w.alloc (.cells #[.slice a L cap,.int .i64 tree] 55));have ag:Hid (d=w.alloc (.cells #[.slice a L cap,.int .i64 tree] 55)):=T;obtain⟨X,Y⟩:=A0 (w:=w) (.cells #[.slice a L cap,.int .i64 tree] 55);rw[<-T]at X Y;have m:Hid (TF w d):=X;have HB:Hid (∀W,TF d W->W.cell? ⟨w.heap.size,0,none⟩=some (.slice a L cap)∧w.heap.size<W.heap.size):=i7 fun W t=>by have:=j9 Y t id;exact⟨g9 this 0 _ rfl,i6 this⟩
   have HS:Hid (Dg d par L (.int .i64 0) d):=⟨0,rfl,by omega,rfl,TQ⟩;clear h1 h2 y T Y X;go_enter func249,ntmps249;go_wp2_with(go_fit(A _);rintro e w2⟨rfl,rfl⟩);rw[<-ag.o];go_loopg[3] L (fun g iv wr=>Dg d par g iv wr)
   case atStart=>exact HS.o
   case round=>
     obtain⟨j,rfl,ad,F,f⟩:=hrel;have l:Hid (j+gk=par.length∧checkP [] par=checkP (par.take j) (par.drop j)):=⟨ad,F⟩;have I:Hid (TF d wr):=f;obtain⟨b0,b1⟩:=HB.o wr f;clear F ad HS A f;by_cases E:j<L
     ·obtain⟨p,U⟩:∃p,par[j]?=some p:=⟨_,LB (by rw[<-v.o];exact E)⟩;obtain⟨b,off,rfl,hS,ac,c0⟩:=B8 (P.o.turned (m.o.tr I.o) fun _ _ z=>z) j p U;have HW:Hid (wrap64 ((j:Int)+1)=((j+1:Nat):Int)):=i7 (by have:=Z.o;simp[wrap64];omega);have x:Hid (j<L):=E;have C:Hid (par[j]?=some p):=U;have B:=fun W=>wJ p W
      have K:decide ((j:Int)<(L:Int))=true:=LX (by omega);have M:decide (j<L)=true:=LX E;clear U;by_cases n:kP p
      ·rw[decide_eq_true n]at B;have H:Hid (kP p):=n;clear n;go_wp2_with(go_fit(B _);rintro e w2⟨rfl,rfl⟩);have ab:Hid (Dh d par j p j (.int .i64 0) wr):=⟨0,rfl,by omega,by simp,I.o⟩;have CJ:Hid (∀W,TF d W->W.cell? ⟨b,off+j,none⟩=some (.int .i64 p)):=i7 fun W t=>by obtain⟨b',ak,G,-,-,ai⟩:=B8 (P.o.turned (m.o.tr t) fun _ _ z=>z) j p C.o;simp only[Option.some.injEq,Addr.mk.injEq,and_true]at G;obtain⟨rfl,rfl⟩:=G;exact ai
       clear B b0 b1 c0 K M;generalize aj:gk=Gk at *;clear aj;go_loopg[4] j (fun g kv wr=>Dh d par j p g kv wr)
       case atStart=>exact ab.o
       case round=>
         obtain⟨k,rfl,ae,F,f⟩:=hrel;have s:Hid (k+gk=j∧p ∉ par.take k):=⟨ae,F⟩;have J:Hid (TF d wr):=f;obtain⟨b0,b1⟩:=HB.o wr f;have cj:=CJ.o wr f;clear ae F f ab ac;by_cases N:k<j
         ·obtain⟨q,V⟩:∃q,par[k]?=some q:=⟨_,LB (by rw[<-v.o];omega)⟩;obtain⟨b',ak,G,-,ac,c1⟩:=B8 (P.o.turned (m.o.tr J.o) fun _ _ z=>z) k q V;simp only[Option.some.injEq,Addr.mk.injEq,and_true]at G;obtain⟨rfl,rfl⟩:=G;have Q:Hid (par[k]?=some q):=V;have aa:Hid (k<j):=N;have ah:Hid (wrap64 ((k:Int)+1)=((k+1:Nat):Int)):=i7 (by have:=Z.o;have:=x.o;simp[wrap64];omega);have K:decide ((k:Int)<(j:Int))=true:=LX (by omega);have M:decide (k<j)=true:=LX N;have al:k<L:=by omega
          clear V;by_cases r:q=p
          ·have e5:(q==p)=true:=by simp[r]
           have O:Hid (p∈par.take j):=i7 (by rw[<-r];exact List.mem_take_iff_getElem.2 ⟨k,by have:=(LA.1 Q.o).1;omega,(LA.1 Q.o).2⟩);clear r;go_wp2;go_quiet (fail);go_wp2;rw[u.o];exact⟨by rw[i.o,l.o.2,eD C.o,checkP,if_neg fun q=>q H.o,if_pos O.o];rfl,(m.o.tr J.o).drawN _⟩
          ·have e5:(q==p)=false:=by simp[r]
           have O:Hid (p ∉ par.take (k+1)):=i7 (by rw[List.take_add_one,Q.o];simp only[Option.toList,List.mem_append,List.mem_singleton];exact fun z=>z.elim s.o.2 fun z=>r z.symm);clear r;go_wp2;go_quiet (fail);go_wp2;go_roundg (gk-1)
           case measure=>have:=s.o;have:=aa.o;omega
           case rel=>exact⟨k+1,by rw[ah.o],by have:=s.o;have:=aa.o;omega,O.o,J.o.drawN _⟩
         ·have K:decide ((k:Int)<(j:Int))=false:=LD (by omega);have M:decide (k<j)=false:=LD N;have af:Hid (p ∉ par.take j):=i7 (by rw[<-(show k=j by have:=s.o;omega)];exact s.o.2);clear N;go_wp2;go_roundg (Gk-1)
          case measure=>have:=l.o;have:=v.o;have:=x.o;omega
          case rel=>exact⟨j+1,by rw[HW.o],by have:=l.o;have:=v.o;have:=x.o;omega,by rw[l.o.2,eD C.o,checkP,if_neg fun q=>q H.o,if_neg af.o,List.take_add_one,C.o];rfl,J.o⟩
      ·rw[decide_eq_false n]at B;have H:Hid (¬kP p):=n;clear n;go_wp2_with(go_fit(B _);rintro e w2⟨rfl,rfl⟩);rw[u.o];exact⟨by rw[i.o,l.o.2,eD C.o,checkP,if_pos H.o];rfl,m.o.tr I.o⟩
     ·have K:decide ((j:Int)<(L:Int))=false:=LD (by omega);have M:decide (j<L)=false:=LD E;have x:Hid (L<=j):=i7 (by omega);clear E;go_wp2;rw[u.o];exact⟨by rw[i.o,l.o.2,List.drop_eq_nil_of_le (by have:=v.o;have:=x.o;omega),checkP];rfl,m.o.tr I.o⟩
  ·rw[decide_eq_false h2]at A;have i:Hid (D8 ⟨par,tree⟩=1):=i7 (by unfold D8;rw[if_neg (by simp only;omega),if_pos h2]);clear h1 h2 y;go_enter func249,ntmps249;go_wp2_with(go_fit(A _);rintro e w2⟨rfl,rfl⟩);rw[u.o];exact⟨by rw[i.o];rfl,TA⟩
def Di(w2:World)(T:Nat)(l:List Int)(g:Nat)(b a:Value)(wr:World):Prop:=∃j:Nat,a=.int .i64 j∧j+g=l.length∧b=.string ⟨(m9 T 4++m9 l.length 1++eV (l.take j)).toArray⟩∧TF w2 wr
theorem py{S:Nat->Prop}{a:Option Addr}{cap:Nat}{c:Cm}(w:World)(h:p7 w S a cap c.par):CZ 174 #[kJ a cap c] w (ds w c):=by
  obtain⟨D,C⟩:=EX (ds w c);have X:Hid (D=ds w c):=C;rw[<-C];have d:=fun W(hW:TF w W)=>sy W (h.turned hW fun _ _ q=>q)
  unfold eU at d;by_cases r:D8 c=0
  ·obtain⟨aa,s,P⟩:=jC r;have G:Hid (U0 c=.ok (mP (gM c))):=i7 (by unfold U0;rw[if_pos r]);rw[r]at d;obtain⟨par,tree⟩:=c;unfold kJ at d ⊢;dsimp only at h d aa s P ⊢;have HI:Hid (p7 w S a cap par):=h;obtain⟨L,J⟩:=EX par.length;have l:Hid (L=par.length):=J;obtain⟨T,rfl⟩:∃T:Nat,tree=(T:Int):=⟨tree.toNat,by have:=s.1;omega⟩;have Z:Hid (T<65536∧L<=16):=⟨by have:=s.2;omega,by omega⟩;have HP:Hid (∀p∈par,kP p):=P;rw[<-J]at d ⊢;have z:Hid (∀W,TF w W->CZ 249 #[.agg #[.slice a L cap,.int .i64 (T:Int)]] W (RT (.int .i64 0) W)):=d;obtain⟨f,K⟩:=EX (w.alloc (.cells #[.slice a L cap,.int .i64 (T:Int)] 55));have al:Hid (f=w.alloc (.cells #[.slice a L cap,.int .i64 (T:Int)] 55)):=K;obtain⟨R,U⟩:=A0 (w:=w) (.cells #[.slice a L cap,.int .i64 (T:Int)] 55);rw[<-K]at R U;have TV:Hid (TF w f):=R;have B:Hid (∀W,TF f W->W.cell? ⟨w.heap.size,0,none⟩=some (.slice a L cap)∧W.cell? ⟨w.heap.size,1,none⟩=some (.int .i64 (T:Int))∧w.heap.size<W.heap.size):=fun W q=>by have M:=j9 U q id;exact⟨g9 M 0 _ rfl,g9 M 1 _ rfl,i6 M⟩
   have v:IntKind.u64.wrap ((T:Nat):Int)=(T:Int):=by have:=s.2;simp[IntKind.wrap,IntKind.bits,IntKind.signed];omega
   have ac:IntKind.u64.wrap ((L:Nat):Int)=(L:Int):=by simp[IntKind.wrap,IntKind.bits,IntKind.signed];omega
   have x:∀W,CZ 245 #[.int .u64 (IntKind.u64.wrap (T:Nat)),.int .i64 4] W (RT (.string ⟨(m9 T 4).toArray⟩) W):=fun W=>by rw[v];exact p5 T 4 W (by have:=s.2;omega) (by omega)
   have ad:∀W,CZ 245 #[.int .u64 (IntKind.u64.wrap (L:Nat)),.int .i64 1] W (RT (.string ⟨(m9 L 1).toArray⟩) W):=fun W=>by rw[ac];exact p5 L 1 W (by omega) (by omega)
   have am:=I6 (m9 T 4) (m9 L 1) (by rw[j6,j6];omega);clear h d aa s P C J r K v ac U R;generalize(⟨(m9 T 4).toArray⟩:ByteArray)=n1 at *;generalize(⟨(m9 L 1).toArray⟩:ByteArray)=n2 at *;generalize ae:(⟨(m9 T 4++m9 L 1).toArray⟩:ByteArray)=q1 at *;have aj:Hid ((⟨(m9 T 4++m9 L 1).toArray⟩:ByteArray)=q1):=ae;clear ae;have ag:=i7 x;have ah:=i7 ad;clear x ad;go_enter func174,ntmps174;go_wp2_with(go_fit(z.o _ TA);rintro e w2⟨rfl,n⟩;rw[<-al.o]at n;have H:Hid (TF f w2):=n;obtain⟨a1,a2,a3⟩:=B.o w2 n;clear n);have i:Hid (TF f w2.drew):=i7 H.o.draw;have KS:Hid (∀W,TF f W->W.cell? ⟨w.heap.size,0,none⟩=some (.slice a L cap)∧W.cell? ⟨w.heap.size,1,none⟩=some (.int .i64 (T:Int))):=i7 fun W t=>⟨(B.o W t).1,(B.o W t).2.1⟩
   go_region_held3 (fun W=>W.cell? ⟨w.heap.size,0,none⟩=some (.slice a L cap)∧W.cell? ⟨w.heap.size,1,none⟩=some (.int .i64 (T:Int)))
     (first|(exact KS.o _ i.o)|go_keep)
     (first
       |(go_fit(ag.o _);rintro e wB⟨rfl,y⟩;have Q1:=i.o.tr y;clear i y;have i:=i7 Q1;clear Q1)
       |(go_fit(ah.o _);rintro e wC⟨rfl,y⟩;have Q1:=i.o.tr y;clear i y;have i:=i7 Q1;clear Q1))
   have Y:Hid (Di f T par L (.string q1) (.int .i64 0) wC):=⟨0,rfl,by have:=l.o;omega,by rw[<-l.o,<-aj.o];simp[eV],i.o⟩;clear a1 a2 a3 am;go_wp2;go_loopg[5,6] L (fun g sv iv wr=>Di f T par g sv iv wr)
   case atStart=>exact Y.o
   case round=>
     obtain⟨j,rfl,ab,rfl,Q⟩:=hrel;have I:Hid (TF f wr):=Q;have V:Hid (j+gk=par.length):=ab;obtain⟨f1,f2,f3⟩:=B.o wr Q;clear ab Q Y;by_cases u:j<L
     ·obtain⟨p,F⟩:∃p,par[j]?=some p:=⟨_,LB (by rw[<-l.o];exact u)⟩;obtain⟨b,off,rfl,-,aq,c0⟩:=B8 (HI.o.turned (TV.o.tr I.o) fun _ _ q=>q) j p F;have N:=HP.o p (LI F);obtain⟨m,rfl⟩:∃m:Nat,p=(m:Int):=⟨p.toNat,by have:=N.1;omega⟩;have hm:m<65536:=by have:=N.2;omega
      have HW:Hid (wrap64 ((j:Int)+1)=((j+1:Nat):Int)):=i7 (by have:=Z.o;simp[wrap64];omega);have A:Hid (j<L):=u;have e3:decide ((j:Int)<(L:Int))=true:=LX (by omega);have e4:decide (j<L)=true:=LX u;obtain⟨bs,E⟩:=EX (m9 T 4++m9 par.length 1++eV (par.take j));have an:bs.length<=1000:=by have:=Z.o;have:=l.o;have:=List.length_take_le j par;rw[E];simp only[List.length_append,j6,rT];omega
      have E1:Hid (bs++m9 m 4=m9 T 4++m9 par.length 1++eV (par.take (j+1))):=i7 (by rw[List.take_add_one,F];show _=m9 T 4++m9 par.length 1++eV (par.take j++[(m:Int)]);rw[rU,<-List.append_assoc,E];simp[eV]);rw[<-E];have v:IntKind.u64.wrap ((m:Nat):Int)=(m:Int):=by simp[IntKind.wrap,IntKind.bits,IntKind.signed];omega
      have x:∀W,CZ 245 #[.int .u64 (IntKind.u64.wrap (m:Nat)),.int .i64 4] W (RT (.string ⟨(m9 m 4).toArray⟩) W):=fun W=>by rw[v];exact p5 m 4 W (by omega) (by omega)
      have ap:=I6 bs (m9 m 4) (by rw[j6];omega);clear F N hm E an v;generalize(⟨bs.toArray⟩:ByteArray)=q0 at *;generalize(⟨(m9 m 4).toArray⟩:ByteArray)=n1 at *;generalize af:(⟨(bs++m9 m 4).toArray⟩:ByteArray)=q2 at *;have ak:Hid ((⟨(bs++m9 m 4).toArray⟩:ByteArray)=q2):=af;clear af;have ai:=i7 x;clear x;go_wp2_with(go_fit(ai.o _);rintro e w4⟨rfl,ao⟩);go_roundg (gk-1)
      case measure=>have:=V.o;have:=l.o;have:=A.o;omega
      case rel=>exact⟨j+1,by rw[HW.o],by have:=V.o;have:=l.o;have:=A.o;omega,by rw[<-ak.o,E1.o],I.o.tr ao⟩
     ·have e3:decide ((j:Int)<(L:Int))=false:=LD (by omega);have e4:decide (j<L)=false:=LD u;have A:Hid (L<=j):=i7 (by omega);clear u;go_wp2;rw[X.o];refine⟨?_,TV.o.tr I.o⟩;rw[G.o,List.take_of_length_le (by have:=l.o;have:=A.o;omega)];rfl
  ·have G:Hid (U0 c=.error (D8 c)):=i7 (by unfold U0;rw[if_neg r]);obtain⟨k,O⟩:=EX (D8 c);have HK:Hid (k=D8 c):=O;have e3:((k:Int)==0)=false:=by simp;omega
   rw[<-O]at d;have z:=i7 d;clear C r O d;unfold kJ at z ⊢;go_enter func174,ntmps174;go_wp2_with(go_fit(z.o _ TA);rintro e w2⟨rfl,n⟩;have H:=i7 n;clear n);rw[X.o];exact⟨by rw[G.o,<-HK.o];rfl,TA.tr H.o⟩
def I1(w:World)(S:Nat->Prop)(r:Nat)(D':Dk)(w':World):Prop:=∃S',G9 w' S' r D'∧(∀b,S' b->S b∨w.heap.size<=b)∧(∀b,S' b->b<w'.heap.size)∧d7 S w w'
theorem I1.of{w w':World}{d:Nat->Nat}{S:Nat->Prop}{r:Nat}{D':Dk}(h:B7 w d r D' w')(c:∀b,d b≠0->S b):I1 w S r D' w':=by obtain⟨e,g,j,f,i,h1,h2,h3⟩:=h;exact⟨fun b=>e b≠0,⟨e,g,j,f,i,h1,fun b a=>a⟩,fun b a=>(h2 b a).imp (c b) id,h1.bnd,h3.mono fun b _ a=>c b a⟩
theorem I1.next{w f w2:World}{S d:Nat->Prop}{r:Nat}{D2:Dk}(h:I1 f d r D2 w2)(h1:∀b,d b->S b∨w.heap.size<=b)(t:d7 S w f):I1 w S r D2 w2:=by obtain⟨g,a,b,c,e⟩:=h;exact⟨g,a,fun x hx=>(b x hx).elim (h1 x) fun q=>.inr (LR t.size q),c,t.comp e fun i j q=>q.elim id fun q=>(h1 i q).elim id fun z=>by omega⟩
theorem I1.after{w a w2:World}{S:Nat->Prop}{r:Nat}{D2:Dk}(h:I1 a S r D2 w2)(t:d7 S w a):I1 w S r D2 w2:=h.next (fun b c=>.inl c) t
theorem ve{w:World}{S:Nat->Prop}{r:Nat}{D:Dk}(h:G9 w S r D)(a:D.Ok)(name:ByteArray):
  CZ 182 #[pt r,.string name] w (RT (.tuple #[.string (D.read name).1,.int .i64 ((D.read name).2:Nat)]) w):=by
 obtain⟨e,c,f,b,d,h1,h2⟩:=h;exact xQ h1 a name
theorem sD{w:World}{S:Nat->Prop}{r:Nat}{D:Dk}(h:G9 w S r D)(d:D.Ok)(f:D.pend.length<=1000000000)(c:D.files.length<=1000000000)(name:ByteArray):
  CZ 183 #[pt r,.string name] w fun e w'=>e=.returned (.int .i64 ((D.create name).2:Nat))∧I1 w S r (D.create name).1 w':=by
 obtain⟨k,i,l,g,j,h1,h2⟩:=h;exact(rI h1 d f c name).mono fun e w'⟨a,b⟩=>⟨a,I1.of b h2⟩
theorem kA{w:World}{S:Nat->Prop}{r:Nat}{D:Dk}(h:G9 w S r D)(c:D.Ok):
  CZ 184 #[pt r] w fun e w'=>e=.returned (.int .i64 D.syncNames.2)∧I1 w S r D.syncNames.1 w':=by
 obtain⟨i,f,j,d,g,h1,h2⟩:=h;exact(lR h1 c).mono fun e w'⟨a,b⟩=>⟨a,I1.of b h2⟩
def pA(w:World)(c:Nat->Prop)(d:Nat)(r:Dk×Except Nat St)(e:Ending)(w':World):Prop:=
 ∃a,G9 w' a d r.1∧(∀b,a b->c b∨w.heap.size<=b)∧(∀b,a b->b<w'.heap.size)∧d7 c w w'∧match r.2 with
  | .error k=>e=.returned (.tuple #[.pointer none,.int .i64 k])
  | .ok s=>∃p rs g f,e=.returned (.tuple #[pt p,.int .i64 0])∧F4 78 w' rs p (pt d) g f s∧∀b,rs b≠0->w.heap.size<=b∧¬a b
theorem pB{w:World}{c:Nat->Prop}{d:Nat}{D D1 D2:Dk}(F:G9 w c d D)(j:D.Ok)(I:D.pend.length<=1000000000)(G:D.files.length<=1000000000)(n:∀b,c b->b<w.heap.size)(E:D.read logB=(emp,6))(h1:D.create logB=(D1,0))(h2:D1.syncNames=(D2,0)):
  CZ 101 #[pt d] w (pA w c d (D2,.ok noSt)):=by
 obtain⟨P,m⟩:=EX (pA w c d (D2,.ok noSt));have O:Hid (P=pA w c d (D2,.ok noSt)):=m;rw[<-m];obtain⟨f,h⟩:=EX (w.alloc (.cells #[pt d,.slice none 0 0,.slice none 0 0,.bool false] 78));have N:Hid (f=w.alloc (.cells #[pt d,.slice none 0 0,.slice none 0 0,.bool false] 78)):=h;have k:TF w f:=by rw[h];exact TA
 have x:f.heap[w.heap.size]?=some (.cells #[pt d,.slice none 0 0,.slice none 0 0,.bool false] 78):=by rw[h];exact i8 _ _
 have l:=F.turned k fun _ _ q=>q
 have r:=ve l j logB;rw[E]at r;have L:Hid (CZ 182 #[pt d,.string ⟨#[108,111,103]⟩] f (RT (.tuple #[.string ⟨#[]⟩,.int .i64 6]) f)):=r;have K:Hid (∀W,TF f W->CZ 183 #[pt d,.string ⟨#[108,111,103]⟩] W fun e w'=>e=.returned (.int .i64 0)∧I1 f c d D1 w'):=fun W t=>by have:=sD (l.turned t fun _ _ q=>q) j I G logB;rw[h1]at this;exact this.mono fun e w'⟨a,b⟩=>⟨a,b.after (t.mono fun _ _ z=>z.elim)⟩
 have H:D1.Ok:=by have:=j.createOk logB;rw[h1]at this;exact this
 have M:Hid (∀W,I1 f c d D1 W->CZ 184 #[pt d] W fun e w'=>e=.returned (.int .i64 0)∧I1 f c d D2 w'):=fun W⟨A,Q,R,V,S⟩=>by have:=kA Q H;rw[h2]at this;exact this.mono fun e w'⟨a,b⟩=>⟨a,b.next R S⟩
 have J:Hid (∀w2,I1 f c d D2 w2->pA w c d (D2,.ok noSt) (.returned (.tuple #[pt w.heap.size,.int .i64 0])) w2):=fun w2⟨A,T,B,U,C⟩=>by
  have zV:=k.size;have X:=i6 x;have hx:w2.heap[w.heap.size]?=some (.cells #[pt d,.slice none 0 0,.slice none 0 0,.bool false] 78):=j9 x C (fun q=>by have:=n _ q;omega);refine⟨A,T,fun b g=>(B b g).imp id fun q=>by omega,U,(k.mono fun _ _ q=>q.elim).tr C,w.heap.size,fun b=>if b=w.heap.size then 1 else 0,_,_,rfl,⟨if_pos rfl,hx,⟨[],Sl.nil _ _ _ _,fun i t p=>by simp[noSt]at p⟩,⟨[],Sl.nil _ _ _ _,fun i t p=>by simp[noSt]at p⟩,fun b g=>?_⟩,fun b g=>?_⟩
  ·by_cases q:b=w.heap.size
   ·rw[q];exact i6 hx
   ·simp[q]at g
  ·by_cases q:b=w.heap.size
   ·refine⟨by omega,fun z=>?_⟩;rcases B b z with y|y
    ·have:=n _ y;omega
    ·omega
   ·simp[q]at g
 clear m F j I G n E h1 h2 h k x l r H;go_enter func101,ntmps101;go_wp2_with fail;rw[<-N.o]
 go_wp2_with(first
  |(go_fit L.o;rintro e Y⟨rfl,s⟩;replace s:=i7 s)
  |(go_fit(K.o _ s.o);rintro e w2⟨rfl,u⟩;replace u:=i7 u)
  |(go_fit(M.o _ u.o);rintro e Z⟨rfl,v⟩;replace v:=i7 v))
 rw[O.o];exact J.o _ v.o
def pC(w:World)(d:Nat)(e:Ending)(w':World):Prop:=∃p,e=.returned (.tuple #[pt p,.int .i64 0])∧w.heap.size<=p∧p<w'.heap.size∧w'.heap[p]?=some (.cells #[pt d,.slice none 0 0,.slice none 0 0] 178)∧TF w w'
theorem pD(w:World):CZ 188 #[.string ⟨#[]⟩] w fun e w'=>(∃v k,e=.returned (.tuple #[v,.int .i64 k]))∧TF w w':=by
 have a:=tO ⟨#[]⟩ ⟨#[80,68,71,77,1]⟩ w (by simp[ByteArray.size]);have h2:di ⟨#[]⟩ ⟨#[80,68,71,77,1]⟩=2:=by simp[di,ByteArray.size]
 rw[h2]at a;clear h2;go_enter func188,ntmps188;go_wp2_with(go_fit a;rintro e c⟨rfl,b⟩);go_ret2;exact⟨⟨_,_,rfl⟩,b⟩
theorem ni{w:World}{S:Nat->Prop}{d:Nat}{D:Dk}(p:G9 w S d D)(r:D.Ok)(s:D.read chainB=(emp,6))(n:Int):CZ 102 #[pt d,.int .i64 n] w (pC w d):=by
 obtain⟨B,g⟩:=EX (pC w d);have A:Hid (B=pC w d):=g;rw[<-g];obtain⟨c,f⟩:=EX (w.alloc (.cells #[pt d,.slice none 0 0,.slice none 0 0] 178));have z:Hid (c=w.alloc (.cells #[pt d,.slice none 0 0,.slice none 0 0] 178)):=f;have l:TF w c:=by rw[f];exact TA
 have m:c.heap[w.heap.size]?=some (.cells #[pt d,.slice none 0 0,.slice none 0 0] 178):=by rw[f];exact i8 _ _
 have h:=ve (p.turned l fun _ _ q=>q) r chainB;rw[s]at h;have y:Hid (CZ 182 #[pt d,.string ⟨#[99,104,97,105,110]⟩] c (RT (.tuple #[.string ⟨#[]⟩,.int .i64 6]) c)):=h;have x:Hid (∀W,TF c W->CZ 188 #[.string ⟨#[]⟩] W fun e w'=>(∃v k,e=.returned (.tuple #[v,.int .i64 k]))∧TF c w'):=fun W t=>(pD W).mono fun e w'⟨a,b⟩=>⟨a,t.tr b⟩
 have u:Hid (∀w2,TF c w2->pC w d (.returned (.tuple #[pt w.heap.size,.int .i64 0])) w2):=fun w2 t=>
  ⟨w.heap.size,rfl,LS _,i6 (j9 m t id),j9 m t id,l.tr t⟩
 clear g p r s f l m h;go_enter func102,ntmps102;go_wp2_with fail;rw[<-z.o]
 go_wp2_with(first
  |(go_fit y.o;rintro e C⟨rfl,i⟩;replace i:=i7 i)
  |(go_fit(x.o _ i.o);rintro e w2⟨⟨v,k,rfl⟩,j⟩;replace j:=i7 j))
 rw[A.o];exact u.o _ j.o
theorem sE(bs:List UInt8):J9 ⟨bs.toArray⟩=⟨(bs++m9 (Crc.sum (p6 ⟨bs.toArray⟩)) 4).toArray⟩:=by unfold J9;rw[nF]
theorem pE(f:Fr)(w:World)(h1:1<=f.kind)(h2:f.kind<=255)(h3:f.body.size<=1048576):CZ 247 #[.agg #[.int .i64 f.kind,.string f.body]] w (gd w f):=by
 obtain⟨D,d⟩:=EX (gd w f);have G:Hid (D=gd w f):=d;rw[<-d];obtain⟨bs,h⟩:=EX (CX f);have F:Hid (E8 f=J9 ⟨bs.toArray⟩):=i7 (by rw[sE,h];exact mj f);obtain⟨k,body⟩:=f;dsimp only at h1 h2 h3 ⊢;have R:decide ((k:Int)<1)=false:=LD (by omega);have S:decide (k<1)=false:=LD (by omega);have T:decide ((255:Int)<(k:Int))=false:=LD (by omega);have U:decide (255<k)=false:=LD (by omega);obtain⟨n,P⟩:=EX body.size;have V:decide ((1048576:Int)<(body.size:Int))=false:=LD (by omega);have X:decide (1048576<body.size)=false:=LD (by omega);obtain⟨s,u,v,O⟩:=wy body;have x:IntKind.u64.wrap ((k:Nat):Int)=(k:Int):=by simp[IntKind.wrap,IntKind.bits,IntKind.signed];omega
 have y:IntKind.u64.wrap ((body.size:Nat):Int)=(body.size:Int):=by simp[IntKind.wrap,IntKind.bits,IntKind.signed];omega
 have z:∀W,CZ 245 #[.int .u64 (IntKind.u64.wrap (k:Nat)),.int .i64 1] W (RT (.string ⟨(m9 k 1).toArray⟩) W):=fun W=>by rw[x];exact p5 k 1 W (by omega) (by omega)
 have A:∀W,CZ 245 #[.int .u64 (IntKind.u64.wrap (body.size:Nat)),.int .i64 4] W (RT (.string ⟨(m9 body.size 4).toArray⟩) W):=fun W=>by rw[y];exact p5 body.size 4 W (by omega) (by omega)
 have Z:=I6 (m9 k 1) (m9 body.size 4) (by rw[j6,j6];omega);have N:=I6 (m9 k 1++m9 body.size 4) s (by rw[List.length_append,j6,j6];omega);have i:m9 k 1++m9 body.size 4++s=bs:=by rw[h,v];rfl
 have C:(⟨bs.toArray⟩:ByteArray).size<=4611686018427387904:=by rw[G6,<-i];simp only[List.length_append,j6];omega
 rw[i,<-u]at N;obtain⟨b,g⟩:=EX (w.alloc (.cells #[.int .i64 (k:Int),.string body] 229));have m:Hid (b=w.alloc (.cells #[.int .i64 (k:Int),.string body] 229)):=g;obtain⟨j,l⟩:=A0 (w:=w) (.cells #[.int .i64 (k:Int),.string body] 229);rw[<-g]at j l;have L:Hid (TF w b):=j;have p:Hid (∀W,TF b W->W.cell? ⟨w.heap.size,0,none⟩=some (.int .i64 (k:Int))∧W.cell? ⟨w.heap.size,1,none⟩=some (.string body)):=fun W q=>by have t:=j9 l q id;exact⟨g9 t 0 _ rfl,g9 t 1 _ rfl⟩
 have M:=O0 ⟨bs.toArray⟩;have K:Hid (∀W:World,CZ 190 #[.slice (some ⟨W.heap.size,0,none⟩) 1 1] (W.alloc (.cells #[.string ⟨bs.toArray⟩] 9)) fun e w'=>e=.returned (.int .u32 (Crc.sum (p6 ⟨bs.toArray⟩):Nat))∧W.alloc (.cells #[.string ⟨bs.toArray⟩] 9)=w'):=i7 fun(W:World)=>li W.heap.size 0 1 _ (W.alloc (.cells #[.string ⟨bs.toArray⟩] 9)) (g9 (heap_alloc_last W _) 0 _ rfl) (by simp) C
 have E:Hid (J9 ⟨bs.toArray⟩=⟨bs.toArray⟩++⟨(m9 (Crc.sum (p6 ⟨bs.toArray⟩)) 4).toArray⟩):=rfl;have B:∀w,CZ 245 #[.int .u64 (Crc.sum (p6 ⟨bs.toArray⟩):Nat),.int .i64 4] w (RT (.string ⟨(m9 (Crc.sum (p6 ⟨bs.toArray⟩)) 4).toArray⟩) w):=fun w=>p5 (Crc.sum (p6 ⟨bs.toArray⟩)) 4 w (by omega) (by omega)
 have Y:∀w,(Op.stringOp .add ⟨bs.toArray⟩ ⟨(m9 (Crc.sum (p6 ⟨bs.toArray⟩)) 4).toArray⟩).run prog w=.ok (.string (J9 ⟨bs.toArray⟩)) w:=fun w=>run_string_add_sum w _ _ (by rw[lj];omega)
 have H:=i7 z;have I:=i7 A;have J:=i7 B;clear h1 h2 h3 d h P g u v O x y z A B i C l j;generalize(⟨(m9 (Crc.sum (p6 ⟨bs.toArray⟩)) 4).toArray⟩:ByteArray)=t4 at *;generalize Crc.sum (p6 ⟨bs.toArray⟩)=r at *;have hm:((r:Int)% 18446744073709551616)=r:=by omega
 clear M;generalize(⟨(m9 k 1++m9 body.size 4).toArray⟩:ByteArray)=q1 at *;generalize(⟨bs.toArray⟩:ByteArray)=q2 at *;generalize(⟨(m9 k 1).toArray⟩:ByteArray)=n1 at *;generalize(⟨(m9 body.size 4).toArray⟩:ByteArray)=n2 at *;obtain⟨k1,k2⟩:=p.o b TQ;rw[m.o]at k1 k2;go_enter func247,ntmps247;go_wp2_with fail;rw[<-m.o];clear k1 k2;have a:Hid (TF b b.drew):=i7 TD
 go_region_held3 (fun W=>W.cell? ⟨w.heap.size,0,none⟩=some (.int .i64 (k:Int))∧W.cell? ⟨w.heap.size,1,none⟩=some (.string body))
  (first|(exact p.o _ a.o)|go_keep)
  (first
   |(go_fit(H.o _);rintro e wB⟨rfl,c⟩;have Q1:=a.o.tr c;clear a c;have a:=i7 Q1;clear Q1)
   |(go_fit(I.o _);rintro e wC⟨rfl,c⟩;have Q1:=a.o.tr c;clear a c;have a:=i7 Q1;clear Q1))
 go_wp2_with(first
  |(go_fit(K.o _);rintro e w'⟨rfl,rfl⟩)
  |(go_fit(J.o _);rintro e w2⟨rfl,Q⟩))
 rw[G.o];exact⟨by rw[F.o];rfl,(L.o.tr a.o).tr (TA.trans Q fun _ _ q=>q)⟩
theorem sF{w:World}{S:Nat->Prop}{r:Nat}{D:Dk}(h:G9 w S r D)(d:D.Ok)(name c:ByteArray)(f:c.size<=1099511627776):
  CZ 248 #[pt r,.string name,.string c] w fun e w'=>e=.returned (.int .i64 ((D.append name c).2:Nat))∧I1 w S r (D.append name c).1 w':=by
 obtain⟨k,i,l,g,j,h1,h2⟩:=h;exact(su h1 d name c f).mono fun e w'⟨a,b⟩=>⟨a,I1.of b h2⟩
theorem Ah{w:World}{S:Nat->Prop}{r:Nat}{D:Dk}(h:G9 w S r D)(c:D.Ok)(name:ByteArray):
  CZ 187 #[pt r,.string name] w fun e w'=>e=.returned (.int .i64 ((D.sync name).2:Nat))∧I1 w S r (D.sync name).1 w':=by
 obtain⟨i,f,j,d,g,h1,h2⟩:=h;exact(xX h1 c name).mono fun e w'⟨a,b⟩=>⟨a,I1.of b h2⟩
def Ai(w:World)(c:Nat->Prop)(d p:Nat)(rs:Nat->Nat)(g e:Value)(D':Dk)(f:St)(w':World):Prop:=∃a,G9 w' a d D'∧(∀b,a b->c b∨w.heap.size<=b)∧(∀b,a b->b<w'.heap.size)∧F4 78 w' rs p (pt d) g e f∧d7 (fun b=>c b∨b=p) w w'
theorem I1.dead{w a:World}{e:Nat->Prop}{d p:Nat}{D':Dk}{rs:Nat->Nat}{g f:Value}{s:St}(h:F4 78 w rs p (pt d) g f s)(o:∀b,e b->rs b=0)(v:s.dead=false)(q:I1 w e d D' a):
  Ai w e d p rs g f D' {s with dead:=true} (a.setCell ⟨p,3,none⟩ (.bool true))∧Ai w e d p rs g f D' {s with dead:=false} a:=by
 obtain⟨l,m,j,n,k⟩:=q;have t:d7 (· =p) a (a.setCell ⟨p,3,none⟩ (.bool true)):=d7.setCell (S:=(· =p)) (p:=⟨p,3,none⟩) rfl _;have r1:=h.r1;have y:=h.bnd p (by omega);have r:F4 78 a rs p (pt d) g f s:=h.turned k fun b c z=>c (o b z)
 refine⟨⟨l,m.turned t fun b c z=>?_,j,fun b c=>by rw[n8];exact n b c,r.setDead true,k.comp t fun i x z=>z.elim .inl .inr⟩,l,m,j,n,by rw[<-v];exact r,k.mono fun _ _ z=>.inl z⟩;rcases j b c with u|u
 ·have:=o _ u;rw[z,r1]at this;omega
 ·omega
theorem mq{w:World}{i:Nat->Prop}{d p:Nat}{D:Dk}{rs:Nat->Nat}{G y:Value}{s:St}(M:G9 w i d D)(E:D.Ok)(h:F4 78 w rs p (pt d) G y s)(B:∀b,i b->rs b=0)(F:s.dead=false)
  (kind:Nat) (body:ByteArray) (h1:1<=kind) (h2:kind<=255) (h3:body.size<=1048576) (O:(E8 ⟨kind,body⟩).size<=1099511627776):
  CZ 173 #[pt p,.int .i64 kind,.string body] w fun e w'=>e=.returned (.int .i64 ((writeS D s kind body).2.2:Nat))∧Ai w i d p rs G y (writeS D s kind body).1 (writeS D s kind body).2.1 w':=by
 have A:=fun W=>pE ⟨kind,body⟩ W h1 h2 h3
 unfold gd at A;have v:=i7 A;have C:=E.appendOk logB (E8 ⟨kind,body⟩);have r:Hid (∀c D',I1 w i d D' c->c.cell? ⟨p,0,none⟩=some (pt d)∧c.cell? ⟨p,3,none⟩=some (.bool false)∧c.frozen? ⟨p,3,none⟩=false∧p<c.heap.size):=fun c D'⟨S,Q,R,T,L⟩=>by have:=(h.turned L fun b U z=>U (B b z)).blk;exact⟨g9 this 0 _ rfl,by rw[<-F];exact g9 this 3 _ rfl,j7 this 3,i6 this⟩
 have x:Hid (∀D' c,I1 w i d D' c->Ai w i d p rs G y D' {s with dead:=true} (c.setCell ⟨p,3,none⟩ (.bool true))∧Ai w i d p rs G y D' {s with dead:=false} c):=fun D' c q=>q.dead h B F
 have l:Hid (∀W,TF w W->(W.cell? ⟨p,0,none⟩=some (pt d)∧p<W.heap.size)∧CZ 248 #[pt d,.string ⟨#[108,111,103]⟩,.string (E8 ⟨kind,body⟩)] W fun e w'=>e=.returned (.int .i64 ((D.append logB (E8 ⟨kind,body⟩)).2:Nat))∧I1 w i d (D.append logB (E8 ⟨kind,body⟩)).1 w'):=fun W t=>⟨⟨g9 (j9 h.blk t id) 0 _ rfl,i6 (j9 h.blk t id)⟩,(sF (M.turned t fun _ _ z=>z) E logB (E8 ⟨kind,body⟩) O).mono fun e w'⟨a,b⟩=>⟨a,b.after (t.mono fun _ _ z=>z.elim)⟩⟩
 obtain⟨D1,k1,u⟩:∃D1 k1,D.append logB (E8 ⟨kind,body⟩)=(D1,k1):=⟨_,_,rfl⟩;rw[u]at l C;replace l:Hid (∀W,TF w W->(W.cell? ⟨p,0,none⟩=some (pt d)∧p<W.heap.size)∧CZ 248 #[pt d,.string ⟨#[108,111,103]⟩,.string (E8 ⟨kind,body⟩)] W fun e w'=>e=.returned (.int .i64 (k1:Nat))∧I1 w i d D1 w'):=l;by_cases g:k1=0
 ·subst g;obtain⟨D2,k2,N⟩:∃D2 k2,D1.sync logB=(D2,k2):=⟨_,_,rfl⟩;rw[dQ u N];have P:Hid (∀c,I1 w i d D1 c->CZ 187 #[pt d,.string ⟨#[108,111,103]⟩] c fun e w'=>e=.returned (.int .i64 (k2:Nat))∧I1 w i d D2 w'):=fun c⟨S,Q,R,T,L⟩=>by have:=Ah Q C logB;rw[N]at this;exact this.mono fun e w'⟨a,b⟩=>⟨a,b.next R L⟩
  clear M E h B F h1 h2 h3 O A C u N;generalize E8 ⟨kind,body⟩=V at *;by_cases g:k2=8
  ·have K:((k2:Int)==8)=true:=by rw[g];rfl
   have k:Hid (k2=8):=g;clear g;go_enter func173,ntmps173
   go_wp2_with(first
    |(go_fit(v.o _);rintro e c⟨rfl,n⟩;obtain⟨⟨H,I⟩,m⟩:=l.o c n)
    |(go_fit m;rintro e w2⟨rfl,f⟩;obtain⟨b1,b2,b3,J⟩:=r.o _ _ f;replace f:=i7 f)
    |(go_fit(P.o _ f.o);rintro e X⟨rfl,j⟩;obtain⟨Y,Z,c3,c4⟩:=r.o _ _ j;replace j:=i7 j))
   go_ret;exact⟨rfl,by rw[k.o];exact(x.o _ _ j.o).1⟩
  ·have K:((k2:Int)==8)=false:=by simp;omega
   have k:Hid (decide (k2=8)=false):=i7 (LD g);clear g;go_enter func173,ntmps173
   go_wp2_with(first
    |(go_fit(v.o _);rintro e c⟨rfl,n⟩;obtain⟨⟨H,I⟩,m⟩:=l.o c n)
    |(go_fit m;rintro e w2⟨rfl,f⟩;obtain⟨b1,b2,b3,J⟩:=r.o _ _ f;replace f:=i7 f)
    |(go_fit(P.o _ f.o);rintro e X⟨rfl,j⟩;replace j:=i7 j))
   go_ret;exact⟨rfl,by rw[k.o];exact(x.o _ _ j.o).2⟩
 ·rw[gf u g];have e0:((k1:Int)==0)=false:=by simp;omega
  clear M E h B F h1 h2 h3 O A C u g;generalize E8 ⟨kind,body⟩=V at *;by_cases g:k1=8
  ·have K:((k1:Int)==8)=true:=by rw[g];rfl
   have k:Hid (k1=8):=g;clear g;go_enter func173,ntmps173
   go_wp2_with(first
    |(go_fit(v.o _);rintro e c⟨rfl,n⟩;obtain⟨⟨H,I⟩,m⟩:=l.o c n)
    |(go_fit m;rintro e w2⟨rfl,f⟩;obtain⟨b1,b2,b3,J⟩:=r.o _ _ f;replace f:=i7 f))
   go_ret;exact⟨rfl,by rw[k.o];exact(x.o _ _ f.o).1⟩
  ·have K:((k1:Int)==8)=false:=by simp;omega
   have k:Hid (decide (k1=8)=false):=i7 (LD g);clear g;go_enter func173,ntmps173
   go_wp2_with(first
    |(go_fit(v.o _);rintro e c⟨rfl,n⟩;obtain⟨⟨H,I⟩,m⟩:=l.o c n)
    |(go_fit m;rintro e w2⟨rfl,f⟩;obtain⟨b1,b2,b3,J⟩:=r.o _ _ f;replace f:=i7 f))
   go_ret;exact⟨rfl,by rw[k.o];exact(x.o _ _ f.o).2⟩
def Dj(T:TypeId)(Is:World->(Nat->Prop)->Prop)(w:World)(c:Nat->Prop)(p:Nat)(rs:Nat->Nat)(e g d:Value)(f:St)(w':World):Prop:=∃a,Is w' a∧(∀b,a b->c b∨w.heap.size<=b)∧(∀b,a b->b<w'.heap.size)∧F4 T w' rs p e g d f∧d7 (fun b=>c b∨b=p) w w'
def BG(T:TypeId)(Is:World->(Nat->Prop)->Prop)(w:World)(d:Nat->Prop)(rs:Nat->Nat)(p:Nat)(f:Value)(g:St)(w':World):Prop:=∃a c h e,Is w' a∧(∀b,a b->d b∨w.heap.size<=b)∧(∀b,a b->b<w'.heap.size)∧F4 T w' c p f h e g∧(∀b,c b≠0->rs b≠0∨w.heap.size<=b)∧(∀b,a b->c b=0)∧d7 (fun b=>d b∨rs b≠0) w w'
theorem vf{T:TypeId}{Is:World->(Nat->Prop)->Prop}(Z:∀W G S U,Is W S->d7 U W G->(∀b,S b->¬U b)->Is G S){w w2 l h d:World}{u:Nat->Prop}{rs:Nat->Nat}{p:Nat}{I O H v g:Value}{k:List Value}{s:St}{t:List Ent}
  (hw:Dj T Is w u p rs I O H s w2) (ab:∀b,u b->rs b=0) (aa:∀b,rs b≠0->b<w.heap.size)
  (hl:∀x∈t,x.2<4294967296) (ae:Sl w2 (fun b=>rs b=2) 65 1 O k s.trees.length) (ad:∀(i:Nat)(t:List Ent),s.trees[i]?=some t->∃a cap,k[i]?=some (.slice a t.length cap)∧H1 w2 (fun b=>rs b=4) a cap t)
  (N:TF w2 l) (hv:Sl l (fun b=>w2.heap.size<=b) 96 2 v (o6 t) t.length) (B:TF l h)
  (C:d7 (fun b=>rs b=2) h d) (hs:Sl d (F2 (fun b=>rs b=2) h) 65 1 g (k++[v]) (s.trees.length+1)):
  BG T Is w u rs p I {s with trees:=s.trees++[t]} (d.setCell ⟨p,1,none⟩ g):=by
 obtain⟨E,X,J,K,j,L⟩:=hw;have M:∀b,E b->rs b=0:=fun b c=>by
  rcases J b c with q|q
  ·exact ab b q
  ·apply LK;intro z;have:=aa b z;omega
 have s2:=L.size;have s3:=N.size;have ak:=B.size;have s4:=C.size;have r1:=j.r1;have ac:=j.bnd p (by omega);have Q:TF w2 h:=N.tr B;have F:d7 (fun b=>rs b=2) w2 d:=Q.comp C fun i _ q=>q.elim False.elim id
 have D:d7 (· =p) d (d.setCell ⟨p,1,none⟩ g):=d7.setCell (S:=(· =p)) (p:=⟨p,1,none⟩) rfl _;have m:d7 (fun b=>rs b=2∨b=p) w2 (d.setCell ⟨p,1,none⟩ g):=F.comp D fun i _ q=>q
 have y:(d.setCell ⟨p,1,none⟩ g).heap.size=d.heap.size:=n8 _ _ _;obtain⟨e,n⟩:∃e:Nat->Nat,e=fun b=>if b<w2.heap.size then rs b else if b<l.heap.size then 4 else if b<h.heap.size then 0 else if b<d.heap.size then 2 else 0:=⟨_,rfl⟩
 have A:∀b,b<w2.heap.size->e b=rs b:=fun b c=>by rw[n];simp only[if_pos c]
 have ah:∀b,w2.heap.size<=b->b<l.heap.size->e b=4:=fun b h1 h2=>by rw[n];simp only;rw[if_neg (by omega),if_pos h2]
 have ai:∀b,h.heap.size<=b->b<d.heap.size->e b=2:=fun b h1 h2=>by rw[n];simp only;rw[if_neg (by omega),if_neg (by omega),if_neg (by omega),if_pos h2]
 have ag:∀b,e b≠0->b<d.heap.size:=fun b c=>by
  rw[n]at c;simp only at c;split at c
  ·omega
  ·split at c
   ·omega
   ·split at c
    ·omega
    ·split at c
     ·assumption
     ·exact absurd rfl c
 have r:∀b,rs b≠0->e b=rs b:=fun b c=>A b (by have:=j.bnd b c;omega)
 refine⟨E,e,g,H,Z _ _ _ _ X m fun b c q=>?_,J,fun b c=>by rw[y];have:=K b c;omega,⟨by rw[r p (by omega),r1],?_,?_,?_,fun b c=>by rw[y];exact ag b c⟩,fun b c=>?_,fun b c=>by rw[A b (K b c)];exact M b c,L.comp m fun i f q=>?_⟩
 ·have:=M b c;rcases q with q|q
  ·omega
  ·rw[q]at this;omega
 ·have h4:d.heap[p]?=w2.heap[p]?:=F.block p ac (by omega);have c:=h4.trans j.blk;have:=j8 c (o:=1) g;simpa[X8]using this
 ·refine⟨k++[v],?_,fun i P f=>?_⟩
  ·have:=(hs.turned D fun b c q=>by
    rcases c with c|c
    ·rw[q,r1]at c;omega
    ·omega)
   rw[List.length_append];refine E7 this fun b c q=>?_
   rw[y]at c;rcases q with q|q
   ·rw[r b (by omega)];exact q
   ·exact ai b q c
  ·rw[List.getElem?_append]at f;have aj:k.length=s.trees.length:=by have:=ae.1;omega
   split at f
   ·rename_i q;obtain⟨a,cap,R,V⟩:=ad i P f;refine⟨a,cap,by rw[List.getElem?_append_left (by omega)];exact R,(V.turned m fun b c z=>?_).mono fun b c=>by rw[r b (by omega)];exact c⟩;rcases z with z|z
    ·omega
    ·rw[z,r1]at c;omega
   ·rename_i q;obtain⟨a,cap,af,he⟩:=wd (E7 hv (T:=fun b=>w2.heap.size<=b∧b<l.heap.size) fun b h1 h2=>⟨h2,h1⟩) hl;have Y:i-s.trees.length=0:=by have:=(LA.1 f).1;simpa using this
    rw[Y]at f;obtain rfl:t=P:=by simpa using f
    refine⟨a,cap,by rw[List.getElem?_append_right (by omega),show i-k.length=0 by omega,af];rfl,((he.turned B fun _ _ z=>z).turned (C.comp D fun i _ q=>q) fun b c z=>?_).mono fun b c=>ah b c.1 c.2⟩;rcases z with z|z
    ·have:=j.bnd b (by omega);omega
    ·omega
 ·refine F8.roles (j.commits.keep m fun b c z=>?_) fun b c=>r b c
  rcases z with z|z
  ·omega
  ·rw[z,r1]at c;omega
 ·by_cases q:b<w2.heap.size
  ·rw[A b q]at c;exact .inl c
  ·exact .inr (by omega)
 ·rcases q with q|q|q
  ·exact q.imp id fun q=>by rw[q];omega
  ·exact .inr (by omega)
  ·exact .inr (by rw[q];omega)
theorem pF{T:TypeId}{Is:World->(Nat->Prop)->Prop}(aa:∀W G S U,Is W S->d7 U W G->(∀b,S b->¬U b)->Is G S){w w2 m k e:World}{u:Nat->Prop}{rs:Nat->Nat}{p:Nat}{I O H v j:Value}{g:List Value}{s:St}{c:Cm}
  (hw:Dj T Is w u p rs I O H s w2) (ac:∀b,u b->rs b=0) (ab:∀b,rs b≠0->b<w.heap.size)
  (hl:∀x∈c.par,eO x) (af:Sl w2 (fun b=>rs b=3) 55 2 H g s.commits.length) (ae:∀(i:Nat)(c:Cm),s.commits[i]?=some c->∃a cap,g[i*2]?=some (.slice a c.par.length cap)∧g[i*2+1]?=some (.int .i64 c.tree)∧p7 w2 (fun b=>rs b=4) a cap c.par)
  (N:TF w2 m) (hv:Sl m (fun b=>w2.heap.size<=b) 3 1 v (ic c.par) c.par.length) (B:TF m k)
  (C:d7 (fun b=>rs b=3) k e) (hs:Sl e (F2 (fun b=>rs b=3) k) 55 2 j (g++[v,.int .i64 c.tree]) (s.commits.length+1)):
  BG T Is w u rs p I {s with commits:=s.commits++[c]} (e.setCell ⟨p,2,none⟩ j):=by
 obtain⟨E,Y,J,K,l,L⟩:=hw;have M:∀b,E b->rs b=0:=fun b d=>by
  rcases J b d with q|q
  ·exact ac b q
  ·apply LK;intro z;have:=ab b z;omega
 have s2:=L.size;have s3:=N.size;have al:=B.size;have s4:=C.size;have r1:=l.r1;have ad:=l.bnd p (by omega);have Q:TF w2 k:=N.tr B;have F:d7 (fun b=>rs b=3) w2 e:=Q.comp C fun i _ q=>q.elim False.elim id
 have D:d7 (· =p) e (e.setCell ⟨p,2,none⟩ j):=d7.setCell (S:=(· =p)) (p:=⟨p,2,none⟩) rfl _;have n:d7 (fun b=>rs b=3∨b=p) w2 (e.setCell ⟨p,2,none⟩ j):=F.comp D fun i _ q=>q
 have y:(e.setCell ⟨p,2,none⟩ j).heap.size=e.heap.size:=n8 _ _ _;obtain⟨f,r⟩:∃f:Nat->Nat,f=fun b=>if b<w2.heap.size then rs b else if b<m.heap.size then 4 else if b<k.heap.size then 0 else if b<e.heap.size then 3 else 0:=⟨_,rfl⟩
 have A:∀b,b<w2.heap.size->f b=rs b:=fun b d=>by rw[r];simp only[if_pos d]
 have ai:∀b,w2.heap.size<=b->b<m.heap.size->f b=4:=fun b h1 h2=>by rw[r];simp only;rw[if_neg (by omega),if_pos h2]
 have aj:∀b,k.heap.size<=b->b<e.heap.size->f b=3:=fun b h1 h2=>by rw[r];simp only;rw[if_neg (by omega),if_neg (by omega),if_neg (by omega),if_pos h2]
 have ah:∀b,f b≠0->b<e.heap.size:=fun b d=>by
  rw[r]at d;simp only at d;split at d
  ·omega
  ·split at d
   ·omega
   ·split at d
    ·omega
    ·split at d
     ·assumption
     ·exact absurd rfl d
 have t:∀b,rs b≠0->f b=rs b:=fun b d=>A b (by have:=l.bnd b d;omega)
 refine⟨E,f,O,j,aa _ _ _ _ Y n fun b d q=>?_,J,fun b d=>by rw[y];have:=K b d;omega,⟨by rw[t p (by omega),r1],?_,?_,?_,fun b d=>by rw[y];exact ah b d⟩,fun b d=>?_,fun b d=>by rw[A b (K b d)];exact M b d,L.comp n fun i h q=>?_⟩
 ·have:=M b d;rcases q with q|q
  ·omega
  ·rw[q]at this;omega
 ·have h4:e.heap[p]?=w2.heap[p]?:=F.block p ad (by omega);have d:=h4.trans l.blk;have:=j8 d (o:=2) j;simpa[X8]using this
 ·refine M6.roles (l.trees.keep n fun b d z=>?_) fun b d=>t b d
  rcases z with z|z
  ·omega
  ·rw[z,r1]at d;omega
 ·refine⟨g++[v,.int .i64 c.tree],?_,fun i P h=>?_⟩
  ·have:=(hs.turned D fun b d q=>by
    rcases d with d|d
    ·rw[q,r1]at d;omega
    ·omega)
   rw[List.length_append];refine E7 this fun b d q=>?_
   rw[y]at d;rcases q with q|q
   ·rw[t b (by omega)];exact q
   ·exact aj b q d
  ·rw[List.getElem?_append]at h;have ak:g.length=s.commits.length*2:=af.1;split at h
   ·rename_i q;obtain⟨a,cap,R,X,V⟩:=ae i P h;refine⟨a,cap,by rw[List.getElem?_append_left (by omega)];exact R,by rw[List.getElem?_append_left (by omega)];exact X,(V.turned n fun b d z=>?_).mono fun b d=>by rw[t b (by omega)];exact d⟩;rcases z with z|z
    ·omega
    ·rw[z,r1]at d;omega
   ·rename_i q;obtain⟨a,cap,ag,he⟩:=gU (E7 hv (T:=fun b=>w2.heap.size<=b∧b<m.heap.size) fun b h1 h2=>⟨h2,h1⟩) hl;have Z:i-s.commits.length=0:=by have:=(LA.1 h).1;simpa using this
    rw[Z]at h;obtain rfl:c=P:=by simpa using h
    refine⟨a,cap,by rw[List.getElem?_append_right (by omega),show i*2-g.length=0 by omega,ag];rfl,by rw[List.getElem?_append_right (by omega),show i*2+1-g.length=1 by omega];rfl,((he.turned B fun _ _ z=>z).turned (C.comp D fun i _ q=>q) fun b d z=>?_).mono fun b d=>ai b d.1 d.2⟩;rcases z with z|z
    ·have:=l.bnd b (by omega);omega
    ·omega
 ·by_cases q:b<w2.heap.size
  ·rw[A b q]at d;exact .inl d
  ·exact .inr (by omega)
 ·rcases q with q|q|q
  ·exact q.imp id fun q=>by rw[q];omega
  ·exact .inr (by omega)
  ·exact .inr (by rw[q];omega)
end Go.Proofs.YtofcogekgcgjhaaGreatDoor
