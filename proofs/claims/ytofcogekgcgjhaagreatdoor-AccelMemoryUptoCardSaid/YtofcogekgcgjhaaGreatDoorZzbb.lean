/- Packed. -/
import Derived.Test.YtofcogekgcgjhaaGreatDoorZzav
set_option maxRecDepth 100000
set_option maxHeartbeats 8000000
namespace Go.Proofs.YtofcogekgcgjhaaGreatDoor
open Go.RowKit Go.Mine Go.Mine.Ac Go.Proofs.Tryz
theorem px(n:Int)(w:World):CZ 328 #[.int .i64 n] w fun e w'=>e=.returned (.int .i64 (counted n))∧w=w':=by
 unfold counted;by_cases a:n<1
 ·rw[if_neg (by omega),show max n 1=1 by omega];have b:decide (n<1)=true:=by simp[a]
  clear a;go_enter func328,ntmps328;go_wp2;go_ret;exact⟨rfl,rfl⟩
 have c:decide (n<1)=false:=by simp[a]
 by_cases h:1023<n
 ·rw[if_pos h];have b:decide (1023<n)=true:=by simp[h]
  clear h a;go_enter func328,ntmps328;go_wp2;go_ret;exact⟨rfl,rfl⟩
 ·rw[if_neg h,show max n 1=n by omega];have b:decide (1023<n)=false:=by simp[h]
  clear h a;go_enter func328,ntmps328;go_wp2;go_ret;exact⟨rfl,rfl⟩
theorem ym{w:World}{S:Nat->Prop}{a:Option Addr}{cap:Nat}{l:List Int}(h:p7 w S a cap l)(F:l.length<=1000000):
  CZ 283 #[.slice a l.length cap] w fun e w'=>e=.returned (.int .i64 (X0 l))∧w=w':=by
 have A:Hid (p7 w S a cap l):=h;obtain⟨r,t⟩:=EX (X0 l);have D:Hid (r=X0 l):=t;rw[<-t];obtain⟨L,q⟩:=EX l.length;have f:Hid (L=l.length∧L<=1000000):=⟨q,by omega⟩;rw[<-q];have u:Hid (wf w l L (.int .i64 0) (.int .i64 0) w):=⟨0,by omega,rfl,rfl,rfl⟩;clear h q F t;go_enter func283,ntmps283;go_wp2;go_loopg[3,4] L (fun g I J wr=>wf w l g I J wr)
 case atStart=>exact u.o
 case round=>
  obtain⟨j,y,rfl,rfl,rfl⟩:=hrel;have p:Hid (j+gk=l.length):=y;clear y u;by_cases G:j<L
  ·obtain⟨x,hx⟩:∃x,l[j]?=some x:=⟨_,LB (by rw[<-f.o.1];exact G)⟩;obtain⟨b,off,rfl,-,M,K⟩:=B8 A.o j x hx;have H:=px x w;have v:Hid (N5 (l.take (j+1))=max (N5 (l.take j)) (counted x)):=i7 (by rw[List.take_add_one,hx];exact lH _ _);have n:Hid (wrap64 ((j:Int)+1)=((j+1:Nat):Int)):=i7 (by have:=f.o;simp[wrap64];omega);obtain⟨m,z⟩:=EX (max (N5 (l.take j)) (counted x));have i:Hid (m=max (N5 (l.take j)) (counted x)):=z;clear hx;generalize counted x=C at *;generalize N5 (l.take j)=c at *;have h1:(if c<C then C else c)=m:=by rw[i.o];split<;>omega
   have h2:(if C<c then c else C)=m:=by rw[i.o];split<;>omega
   have h3:(if C<=c then c else C)=m:=by rw[i.o];split<;>omega
   have h4:(if c<=C then C else c)=m:=by rw[i.o];split<;>omega
   clear z;go_wp2_with(go_fit H;rintro e w'⟨rfl,rfl⟩);go_roundg (gk-1)
   case measure=>have:=p.o;have:=f.o;omega
   case rel=>exact⟨j+1,by have:=p.o;have:=f.o;omega,by rw[n.o],by first|rw[v.o,i.o]|rw[v.o],rfl⟩
  ·have E:j=L:=by have:=p.o;have:=f.o;omega
   subst E;have B:Hid (l.take j=l):=LQ (by have:=f.o.1;omega);have s:=iI l;have d:=lJ l;rw[<-D.o]at d;rw[B.o];generalize N5 l=c at *;have O:decide (j<j)=false:=by simp
   by_cases h1:c=1024
   ·subst h1;have k:Hid (r=1024):=i7 (by rw[d];rfl);clear d s;go_wp2;go_ret;exact⟨by rw[k.o];rfl,rfl⟩
   by_cases h2:c=1023
   ·subst h2;have k:Hid (r=1023):=i7 (by rw[d];rfl);clear d s h1;go_wp2;go_ret;exact⟨by rw[k.o];rfl,rfl⟩
   rw[if_neg (by omega)]at d;have k:Hid (r=c+1):=d;have N:(c==1024)=false:=by simp[h1]
   have P:(c==1023)=false:=by simp[h2]
   have n:Hid (wrap64 (c+1)=c+1):=i7 (by simp only[wrap64];omega);clear d s h1 h2;go_wp2;go_ret;exact⟨by rw[k.o];first|rfl|(rw[<-n.o];rfl)|exact congrArg (fun x=>Ending.returned (.int .i64 x)) n.o,rfl⟩
theorem info4z:(prog.info? 4).map (fun i=>(i.zero,i.size,i.bytes))=some (some (.bool false),1,1):=by kernel_rfl
theorem uY(n:Nat)(e:n<=281474976710656)(w:World):(Instr.makeSlice 363 (.int .i64 n) (.int .i64 n)).run prog w=.ok (.slice (some ⟨w.heap.size,0,none⟩) n n) (w.alloc (.cells (madeCells #[.bool false] n) 4)):=by obtain⟨i,a,b,c,d⟩:=info_parts info4z;have:=run_make (P:=prog) w 363 4 i _ underlying363 a b .i64 .i64 n n (by omega) (by omega) (by rw[d];omega) (by omega);rw[c]at this;simp only[Value.cells,Int.toNat_natCast,Nat.mul_one]at this;exact this
theorem uZ{w:World}{S:Nat->Prop}{a:Option Addr}{cap:Nat}{l:List Int}(h:p7 w S a cap l):p7 w (fun b=>S b∧b<w.heap.size) a cap l:=by obtain⟨h1,h2,h3,h4⟩:=h;refine⟨h1,h2,h3,fun q=>?_⟩;obtain⟨g,off,rfl,e,c,d⟩:=h4 q;exact⟨g,off,rfl,⟨e,c⟩,c,d⟩
def De(c:World)(b:Nat)(l:List Int)(n:Nat)(g:Nat)(d:Value)(wr:World):Prop:=∃(j:Nat)(a:Array Value),j+g=l.length∧d=.int .i64 j∧wr.heap[b]?=some (.cells a 4)∧(∀x:Nat,x<n->a[x]?=some (.bool (decide ((x:Int)∈l.take j))))∧d7 (fun i=>i=b) c wr
theorem yn{w:World}{S:Nat->Prop}{a:Option Addr}{cap n:Nat}{l:List Int}(h:p7 w S a cap l)(K:l.length<=1000000)(E:n<=1000000)(k:∀x∈l,0<=x∧x<(n:Int))(D:l.Nodup):
  CZ 282 #[.slice a l.length cap,.int .i64 n] w (RT (.bool false) w):=by
 obtain⟨L,u⟩:=EX l.length;have r:Hid (L=l.length∧L<=1000000):=⟨u,by omega⟩;rw[<-u];by_cases h2:L<2
 ·have X:decide ((L:Int)<2)=true:=LX (by omega);have Y:decide (L<2)=true:=LX h2;clear h K E k D u h2;go_enter func282,ntmps282;go_wp2;go_ret;exact⟨rfl,TQ⟩
 have X:decide ((L:Int)<2)=false:=LD (by omega);have Y:decide (L<2)=false:=LD h2;have ad:=fun W=>uY n (by omega) W
 obtain⟨c,B⟩:=EX (w.alloc (.cells (madeCells #[.bool false] n) 4));have T:Hid (c=w.alloc (.cells (madeCells #[.bool false] n) 4)):=B;obtain⟨v,F⟩:=A0 (w:=w) (.cells (madeCells #[.bool false] n) 4);rw[<-B]at v F;have V:Hid (TF w c):=v;have P:Hid (∀W,d7 (fun i=>i=w.heap.size) c W->p7 W S a cap l):=fun W t=>(((uZ h).turned v fun _ _ z=>z).turned t fun b e z=>by have:=e.2;omega).mono fun _ z=>z.1
 have R:Hid (∀x∈l,0<=x∧x<(n:Int)):=k;have Q:Hid l.Nodup:=D;have HN:Hid (n<=1000000):=E;have G:Hid (De c w.heap.size l n L (.int .i64 0) c):=⟨0,_,by omega,rfl,F,fun x hx=>by simp[madeCells,hx,Nat.mod_one],TQ⟩;clear h u K E k D B v F h2;go_enter func282,ntmps282;go_wp2;rw[<-T.o];go_loopg[6] L (fun g iv wr=>De c w.heap.size l n g iv wr)
 case atStart=>exact G.o
 case round=>
  obtain⟨j,s,J,rfl,e,I,O⟩:=hrel;have H:Hid (j+gk=l.length):=J;have A:Hid (d7 (fun i=>i=w.heap.size) c wr):=O;have d:Hid (wr.heap[w.heap.size]?=some (.cells s 4)∧∀x:Nat,x<n->s[x]?=some (.bool (decide ((x:Int)∈l.take j)))):=⟨e,I⟩;have ac:=i6 e;clear J G O e I;by_cases f:j<L
  ·obtain⟨x,hx⟩:∃x,l[j]?=some x:=⟨_,LB (by rw[<-r.o.1];exact f)⟩;obtain⟨b,off,rfl,-,ab,c0⟩:=B8 (P.o wr A.o) j x hx;have k:=R.o x (LI hx);obtain⟨m,rfl⟩:∃m:Nat,x=(m:Int):=⟨x.toNat,by omega⟩;have M:m<n:=by omega
   have N:((m:Nat):Int) ∉ l.take j:=by
    intro z;obtain⟨i,hi,aa⟩:=List.mem_take_iff_getElem.1 z;have h1:=(LA.1 hx).1;have h3:l[i]'(by omega)=l[j]:=by rw[aa];exact((LA.1 hx).2).symm
    exact List.pairwise_iff_getElem.1 Q.o i j (by omega) h1 (by omega) h3
   have C:=d.o.2 m M;rw[decide_eq_false N]at C;have c1:wr.cell? ⟨w.heap.size,m,none⟩=some (.bool false):=g9 d.o.1 m _ C;have f1:=j7 d.o.1 m;have Z:decide ((j:Int)<(L:Int))=true:=LX (by omega);have e4:decide (j<L)=true:=LX f;have U:Hid (wrap64 ((j:Int)+1)=((j+1:Nat):Int)):=i7 (by have:=r.o;simp[wrap64];omega);have y:Hid (l[j]?=some (m:Int)∧m<n∧j<L):=⟨hx,M,f⟩;clear hx k N C;go_wp2;go_roundg (gk-1)
   case measure=>have:=H.o;have:=r.o;have:=y.o.2.2;omega
   case rel=>
    refine⟨j+1,s.setIfInBounds m (.bool true),by have:=H.o;have:=r.o;have:=y.o.2.2;omega,by rw[U.o],j8 d.o.1 (o:=m) (.bool true),fun x hx=>?_,A.o.set (p:=⟨w.heap.size,m,none⟩) rfl _⟩;have h1:=d.o.2 x hx;rw[List.take_add_one,y.o.1];by_cases q:m=x
    ·subst q;have hz:m<s.size:=by have:=Array.getElem?_eq_some_iff.1 h1;exact this.1
     rw[Array.getElem?_setIfInBounds_self_of_lt hz];simp
    ·rw[Array.getElem?_setIfInBounds_ne q,h1];have:¬(x:Int)=(m:Int):=fun z=>q (by omega)
     simp[this]
  ·have Z:decide ((j:Int)<(L:Int))=false:=LD (by omega);have e4:decide (j<L)=false:=LD f;clear f;go_wp2;go_ret;exact⟨rfl,V.o.comp A.o fun i hi z=>z.elim id fun z=>by omega⟩
def Df(a:World)(s:I2)(path:ByteArray)(n c:Nat)(g:Nat)(e d:Value)(wr:World):Prop:=∃j:Nat,j+g=c∧d=.int .i64 j∧Sl wr (fun b=>a.heap.size<=b) 3 1 e ((E3 ((List.range j).map (G4 s path n))).map fun x=>Value.int .i64 x) j∧d7 (fun b=>a.heap.size<=b) a wr
theorem kz(s:I2)(path:ByteArray)(n:Nat)(w:World)(V:s.seed<4294967296)(K:path.size<=1000000000)(v:n0 s)(h1:1<=n)(h2:n<=4294967295):
  CZ 274 #[J3 s,.string path,.int .i64 n] w (dY w (E3 (o0 s path n))):=by
 obtain⟨Z,I⟩:=EX (dY w (E3 (o0 s path n)));have HZ:Hid (Z=dY w (E3 (o0 s path n))):=I;rw[<-I];obtain⟨a,H⟩:=EX (w.alloc (.cells #[.int .i64 s.h,.int .i64 s.p,.int .i64 s.m,.int .u32 s.seed] 24));have ac:Hid (a=w.alloc (.cells #[.int .i64 s.h,.int .i64 s.p,.int .i64 s.m,.int .u32 s.seed] 24)):=H;obtain⟨N,A⟩:=A0 (w:=w) (.cells #[.int .i64 s.h,.int .i64 s.p,.int .i64 s.m,.int .u32 s.seed] 24);rw[<-H]at N A;have G:Hid (TF w a):=N;have D:Hid (∀W,d7 (fun b=>a.heap.size<=b) a W->W.cell? ⟨w.heap.size,0,none⟩=some (.int .i64 s.h)∧W.cell? ⟨w.heap.size,1,none⟩=some (.int .i64 s.p)∧W.cell? ⟨w.heap.size,2,none⟩=some (.int .i64 s.m)∧W.cell? ⟨w.heap.size,3,none⟩=some (.int .u32 s.seed)∧w.heap.size<W.heap.size):=fun W q=>by have d:=j9 A q (fun z=>by have:=i6 A;omega);exact⟨g9 d 0 _ rfl,g9 d 1 _ rfl,g9 d 2 _ rfl,g9 d 3 _ rfl,i6 d⟩
 obtain⟨v0,v1,v2,v3,v4⟩:=D.o a TQ;have O:Hid (CZ 196 #[.agg #[.int .i64 s.h,.int .i64 s.p,.int .i64 s.m,.int .u32 s.seed]] a (RT (.int .i64 0) a)):=i7 (by have:=fV s a;rw[if_pos v]at this;exact this);have P:Hid (o0 s path n=(List.range s.h.toNat).map (G4 s path n)):=iQ ⟨v,by omega,by omega⟩;have d1:decide ((n:Int)<1)=false:=by simp;omega
 have d2:decide (n<1)=false:=by simp;omega
 have d4:decide ((4294967295:Int)<(n:Int))=false:=by simp;omega
 have d5:decide (4294967295<n)=false:=by simp;omega
 obtain⟨f,t⟩:=EX (eo s.seed path);obtain⟨B,u⟩:=EX (eo ((s.seed+1)% 4294967296) path);have lA:f<4294967296:=by rw[t];exact iP _ _
 have lB:B<4294967296:=by rw[u];exact iP _ _
 have Q:Hid (∀W,CZ 325 #[.int .u32 s.seed,.string path] W fun e w'=>e=.returned (.int .u32 f)∧w'=W):=fun W=>by rw[t];exact nS s.seed path W V K
 obtain⟨aa,y⟩:=EX ((s.seed+1)% 4294967296);have X:IntKind.u32.wrap (((s.seed:Nat):Int)+1)=(aa:Nat):=by rw[IntKind.wrap_u32,y];exact(EB s.seed 1 4294967296).2
 have E:Hid (∀W,CZ 325 #[.int .u32 (IntKind.u32.wrap (((s.seed:Nat):Int)+1)),.string path] W fun e w'=>e=.returned (.int .u32 B)∧w'=W):=fun W=>by rw[u,<-y,X];exact nS aa path W (by rw[y];exact kj _) K
 have R:Hid (∀W,CZ 325 #[.int .u32 ((((s.seed:Nat):Int)+1)% 4294967296),.string path] W fun e w'=>e=.returned (.int .u32 B)∧w'=W):=fun W=>by have:=E.o W;rw[IntKind.wrap_u32]at this;exact this
 have af:bits .or .u32 (B:Int) 1=((B |||1:Nat):Int):=u32_or_nat B 1 lB (by decide);obtain⟨c,T⟩:∃c:Nat,s.h=(c:Int):=⟨s.h.toNat,by have:=v.1;omega⟩;have k:Hid (c<=16∧s.h=(c:Int)):=⟨by have:=v.2.1;omega,T⟩;have ST:Hid (∀W,TF a W->Df a s path n c c (.slice none 0 0) (.int .i64 0) W):=fun W q=>⟨0,Nat.zero_add _,rfl,Sl.nil _ _ _ _,q.mono fun _ _ z=>z.elim⟩
 have ad:Hid (∀j:Nat,((((f:Nat):Int)+((j*(B |||1)% 4294967296:Nat):Int))% 4294967296)% (n:Int)=((G4 s path n j:Nat):Int)∧G4 s path n j<4294967296):=fun j=>by
  refine⟨?_,Nat.lt_of_le_of_lt (Nat.mod_le _ _) (kj _)⟩;have e:((f:Nat):Int)+((j*(B |||1)% 4294967296:Nat):Int)=((f+j*(B |||1)% 4294967296:Nat):Int):=(Int.natCast_add _ _).symm;rw[e];have e2:(f+j*(B |||1)% 4294967296)% 4294967296=(f+j*(B |||1))% 4294967296:=by omega
  have r:(((f+j*(B |||1)% 4294967296:Nat):Int)% 4294967296)=(((f+j*(B |||1))% 4294967296:Nat):Int):=by rw[<-e2];exact(Int.natCast_emod _ _).symm
  rw[r,t,u];exact(Int.natCast_emod _ _).symm
 have F:Hid ((n:Int)% 4294967296=(n:Int)∧((n:Int)==0)=false∧¬(n:Int)=0):=⟨by omega,beq_eq_false_iff_ne.2 (by omega),by omega⟩;clear T X y t u I H N A V K h1 h2 lA lB;go_enter func274,ntmps274;go_wp2_with fail;rw[<-ac.o]
 go_wp2_with(first
  |(go_fit O.o;rintro e w1⟨rfl,q⟩;obtain⟨c0,c1,c2,c3,c4⟩:=D.o w1 (q.mono fun _ _ z=>z.elim);replace q:=i7 q)
  |(go_fit(Q.o _);rintro e wx⟨rfl,rfl⟩)
  |(go_fit(E.o _);rintro e wx⟨rfl,rfl⟩)
  |(go_fit(R.o _);rintro e wx⟨rfl,rfl⟩))
 clear Q E R O d1 d2 d4 d5 v0 v1 v2 v3 v4 af c0 c1 c2 c3;go_loopg[7,10] c (fun g lv iv wr=>Df a s path n c g lv iv wr)
 case atStart=>exact ST.o _ q.o
 case round=>
  obtain⟨j,U,rfl,L,ht⟩:=hrel;have C:Hid (j+gk=c):=U;have l:Hid (d7 (fun b=>a.heap.size<=b) a wr):=ht;obtain⟨la,lc,rfl,-,-⟩:=L.value;have S:Hid (Sl wr (fun b=>a.heap.size<=b) 3 1 (.slice la j lc) ((E3 ((List.range j).map (G4 s path n))).map fun x=>Value.int .i64 x) j):=L;obtain⟨k1,k2,k3,k4,k5⟩:=D.o wr l.o;rw[k.o.2]at k1;clear U L ht;by_cases J:j<c
  ·have HW:Hid (wrap64 ((j:Int)+1)=((j+1:Nat):Int)):=i7 (by have:=k.o;simp[wrap64];omega);obtain⟨e1,r⟩:=ad.o j;have ai:=F.o.1;have aj:=F.o.2.1;have ak:=F.o.2.2;have ag:(j:Int)% 4294967296=(j:Int):=by have:=k.o;omega
   have ah:(j:Int)*((B |||1:Nat):Int)% 4294967296=((j*(B |||1)% 4294967296:Nat):Int):=EA j (B |||1) 4294967296;have hd:decide (j<c)=true:=LX J;have ae:decide ((j:Int)<(c:Int))=true:=LX (by omega);have m1:Hid (j+1<=maxLen∧(j+1)*8<=140737488355328):=i7 (by have:=k.o;simp only[maxLen];omega);have ab:Hid ((E3 ((List.range (j+1)).map (G4 s path n))).map (fun x=>Value.int .i64 x)=(E3 ((List.range j).map (G4 s path n))).map (fun x=>Value.int .i64 x)++[Value.int .i64 (G4 s path n j:Nat)]):=i7 (by rw[List.range_succ];simp[E3]);obtain⟨x,hx⟩:=EX (G4 s path n j);have HX:Hid (x=G4 s path n j):=hx;rw[<-hx]at e1 r;have al:wrap64 (x:Int)=(x:Int):=by simp only[wrap64];omega
   clear hx r;generalize j*(B |||1)% 4294967296=jb at *;generalize(B |||1)=st at *;go_wp2_with(at_builtin;refine m7 rfl _ _ 41 41 rfl (S.o.turned (d7.alloc (fun _=>False) _ _) fun _ _ q=>q) underlying41 infoC3 rfl (by decide) rfl (.slice (some ⟨wr.heap.size,0,none⟩) 1 1) rfl (R6 underlying41 (.int .i64 (x:Nat)) rfl wr) m1.o.1 m1.o.2 ?_;intro v5 w5 M ht5;obtain⟨a5,c5,rfl,-,-⟩:=M.value;have Y:Hid (d7 (fun b=>a.heap.size<=b) a w5):=(l.o.new _).tr ht5;have YS:=i7 M;clear M ht5);go_roundg (gk-1)
   case measure=>have:=C.o;omega
   case rel=>
    refine⟨j+1,by have:=C.o;omega,by first|rw[HW.o]|rfl,?_,Y.o⟩;rw[ab.o,<-HX.o];refine YS.o.widen fun b d=>?_
    rcases d with d|d
    ·exact d
    ·have h1:=l.o.size;have h2:(wr.alloc (Obj.cells #[Value.int IntKind.i64 (x:Nat)] 3)).heap.size=wr.heap.size+1:=by simp
     omega
  ·have hd:decide (j<c)=false:=LD J;have ae:decide ((j:Int)<(c:Int))=false:=LD (by omega);have HJ:Hid (j=c):=i7 (by have:=C.o;omega);clear J;go_wp2;rw[HZ.o];have h9:=S.o;have e:s.h.toNat=j:=by have:=k.o;have:=HJ.o;omega
   have hl:(E3 (o0 s path n)).length=j:=by rw[P.o,e];simp[E3]
   refine⟨_,rfl,?_,G.o.comp l.o fun i hi z=>z.elim id fun z=>by have:=G.o.size;omega⟩;rw[hl,P.o,e];exact h9.widen fun b d=>LR G.o.size d
theorem su{w:World}{v:Nat->Nat}{r:Nat}{fv Y S X:Value}{D:Dk}(h:B6 w v r fv Y S X D)(l:D.Ok)(name a:ByteArray)(F:a.size<=1099511627776):
  CZ 248 #[pt r,.string name,.string a] w fun e w'=>e=.returned (.int .i64 ((D.append name a).2:Nat))∧B7 w v r (D.append name a).1 w':=by
 have m:=gD h (ki l) name;have HP:Hid (∀w',TF w w'->B7 w v r D w'):=i7 fun w' u=>(h.turned u fun _ _ q=>q).post (u.mono fun _ _ q=>q.elim)
 cases i:D.file name with
 |error k=>
  have HK:Hid (k≠0):=U7 i;have n:Hid (D.append name a=(D,k)):=i7 (by simp[Dk.append,i]);have ah:((k:Int) !=0)=true:=by have:=HK.o;simp;omega
  rw[i]at m;replace m:CZ 167 #[pt r,.string name] w (RT (.tuple #[.int .i64 0,.int .i64 k]) w):=m;rw[n.o];clear h i l;go_enter func248,ntmps248;go_wp2_with(go_fit m;rintro e w2⟨rfl,q⟩;replace q:=i7 q);go_ret;exact⟨rfl,HP.o _ q.o⟩
 |ok k=>
  obtain⟨x,h1,h2,h3⟩:=l.at_lt (Dk.file_live i);obtain⟨g,off,N,cap,af,B⟩:=h.fslice h1;subst af;rw[i]at m;replace m:CZ 167 #[pt r,.string name] w (RT (.tuple #[.int .i64 k,.int .i64 0]) w):=m;obtain⟨O,y⟩:=EX x.bytes;have M:O.size<=16777216:=by rw[y];exact LR (l.small x h3) l.quota
  have G:=eP l;have R:Hid (∀W,TF w W->CZ 168 #[pt r] W (RT (.int .i64 D.used) w)):=i7 fun W u=>
   (xZ (h.turned u fun _ _ q=>q) l).mono fun e w'⟨q1,q2⟩=>⟨q1,u.tr q2⟩
  have I:Hid (∀W,TF w W->W.cell? ⟨r,0,none⟩=some (.int .i64 D.quota)∧r<W.heap.size):=i7 fun W u=>by
   have h':=h.turned u fun _ _ q=>q
   exact⟨g9 h'.blk 0 _ rfl,i6 h'.blk⟩
  obtain⟨k1,k2⟩:=eB h l;have ag:∀W,(Op.stringOp .add O a).run prog W=.ok (.string (O++a)) W:=fun W=>run_string_add_sum W _ _ (by omega)
  have ab:Hid (D.falls=1->∀W,TF w W->CZ 169 #[pt r] W fun e w'=>e=.returned (.int .i64 8)∧B7 w v r {D with falls:=0,off:=true} w'):=i7 k1;have aa:Hid (D.falls≠1->∀W,TF w W->CZ 169 #[pt r] W fun e w'=>e=.returned (.int .i64 0)∧B6 w' v r (.slice (some ⟨g,off,none⟩) N cap) Y S X {D with falls:=D.falls-1}∧d7 (fun b=>v b≠0) w w'):=i7 k2;have HF:Hid (∀W,B6 W v r (.slice (some ⟨g,off,none⟩) N cap) Y S X {D with falls:=D.falls-1}->d7 (fun b=>v b≠0) w W->(W.cell? ⟨r,1,none⟩=some (.slice (some ⟨g,off,none⟩) N cap)∧W.cell? ⟨g,off+k*2,none⟩=some (.string O)∧W.cell? ⟨g,off+(k*2+1),none⟩=some (.int .i64 x.safe)∧(∀j,W.frozen? ⟨g,j,none⟩=false)∧g<W.heap.size∧r<W.heap.size∧k<N∧g≠r)∧B7 w v r (Dk.setF {D with falls:=D.falls-1} k ⟨(Dk.at {D with falls:=D.falls-1} k).bytes++a,(Dk.at {D with falls:=D.falls-1} k).safe⟩) (W.setCell ⟨g,off+k*2,none⟩ (.string (O++a)))):=i7 fun W hW u=>by refine⟨by rw[y];exact hW.fcell B h1,?_⟩;have hx:Dk.at {D with falls:=D.falls-1} k=x:=h2;rw[hx,y];obtain⟨j1,j2⟩:=hW.setF0 (b:=x.bytes++a) B h1;exact j1.post (u.tr j2)
  have ac:∀c:Prop,c=(0<a.size∧D.quota<D.used+a.size)->(c->D.append name a=(D,7))∧(¬c->D.append name a=D.then fun d=>d.setF k ⟨(d.at k).bytes++a,(d.at k).safe⟩):=fun c hc=>by subst hc;exact⟨fun q=>by unfold Dk.append;rw[i];simp only[];rw[if_pos q],fun q=>by unfold Dk.append;rw[i];simp only[];rw[if_neg q]⟩
  obtain⟨H,C⟩:=ac _ rfl;clear ac k1 k2;by_cases s:0<a.size
  ·have ad:decide ((0:Int)<(a.size:Int))=true:=by simp;omega
   have ae:decide (0<a.size)=true:=LX s;have ai:IntKind.i64.wrap ((D.used:Int)+(a.size:Int))=((D.used+a.size:Nat):Int):=Fb _ _ G F;have aj:wrap64 ((D.used:Int)+(a.size:Int))=((D.used+a.size:Nat):Int):=Fc _ _ G F;by_cases t:D.quota<D.used+a.size
   ·have n:Hid _:=i7 (H ⟨s,t⟩);have T:decide ((D.quota:Int)<((D.used+a.size:Nat):Int))=true:=Fj _ _ t;have V:decide (D.quota<D.used+a.size)=true:=LX t;rw[n.o];generalize D.used+a.size=US at *;generalize D.used=U at *;generalize D.quota=J at *;clear h i l h1 h2 h3 B y H C t s G M F;go_enter func248,ntmps248;go_wp2_with(go_fit m;rintro e w2⟨rfl,q⟩;have K:TF w w2.drew:=q.draw;clear q)
    go_region_held3 (fun W=>W.cell? ⟨r,0,none⟩=some (.int .i64 J))
     (first|(exact(I.o _ (by assumption)).1)|go_keep)
     (first|(go_fit(R.o _ K);rintro e w3⟨rfl,p⟩))
    go_wp2;go_ret;exact⟨rfl,HP.o _ p⟩
   ·have T:decide ((D.quota:Int)<((D.used+a.size:Nat):Int))=false:=Fk _ _ t;have V:decide (D.quota<D.used+a.size)=false:=LD t;have n:=i7 (C fun q=>t q.2);by_cases f:D.falls=1
    ·have A:Hid _:=i7 (ab.o f);rw[n.o,Dk.then_dies f];generalize D.used+a.size=US at *;generalize D.used=U at *;obtain⟨J,L⟩:=EX D.quota;rw[<-L]at I T V;clear L;clear h i l h1 h2 h3 B y H C t s G M F f;go_enter func248,ntmps248;go_wp2_with(go_fit m;rintro e w2⟨rfl,q⟩;have K:TF w w2.drew:=q.draw;clear q)
     go_region_held3 (fun W=>W.cell? ⟨r,0,none⟩=some (.int .i64 J))
      (first|(exact(I.o _ (by assumption)).1)|go_keep)
      (first|(go_fit(R.o _ K);rintro e w3⟨rfl,p⟩))
     have E:=A.o _ p;go_wp2_with(go_fit E;rintro e Z⟨rfl,z⟩;replace z:=i7 z);go_ret;exact⟨rfl,z.o⟩
    ·have A:Hid _:=i7 (aa.o f);rw[n.o,Dk.then_goes f];generalize D.used+a.size=US at *;generalize D.used=U at *;obtain⟨J,L⟩:=EX D.quota;rw[<-L]at I T V;clear L;clear h i l h1 h2 h3 B y H C t s G M F f;go_enter func248,ntmps248;go_wp2_with(go_fit m;rintro e w2⟨rfl,q⟩;have K:TF w w2.drew:=q.draw;clear q)
     go_region_held3 (fun W=>W.cell? ⟨r,0,none⟩=some (.int .i64 J))
      (first|(exact(I.o _ (by assumption)).1)|go_keep)
      (first|(go_fit(R.o _ K);rintro e w3⟨rfl,p⟩))
     have E:=A.o _ p;go_wp2_with(go_fit E;rintro e Z⟨rfl,P,Q⟩;obtain⟨⟨y1,y2,y3,y4,y5,y6,y7,y8⟩,z⟩:=HF.o _ P Q;replace z:=i7 z;clear P Q);go_region
     all_goals go_wp2
     all_goals go_ret
     all_goals first|exact⟨rfl,z.o⟩|exact⟨rfl,z.o.draw⟩
  ·have ad:decide ((0:Int)<(a.size:Int))=false:=LD (by omega);have ae:decide (0<a.size)=false:=LD s;have n:=i7 (C fun q=>s q.1);by_cases f:D.falls=1
   ·have A:Hid _:=i7 (ab.o f);rw[n.o,Dk.then_dies f];clear h i l h1 h2 h3 B y H C s G M F f;go_enter func248,ntmps248;go_wp2_with(go_fit m;rintro e w2⟨rfl,q⟩;have p:TF w w2.drew:=q.draw;clear q);go_region;have E:=A.o _ p;go_wp2_with(go_fit E;rintro e Z⟨rfl,z⟩;replace z:=i7 z);go_ret;exact⟨rfl,z.o⟩
   ·have A:Hid _:=i7 (aa.o f);rw[n.o,Dk.then_goes f];clear h i l h1 h2 h3 B y H C s G M F f;go_enter func248,ntmps248;go_wp2_with(go_fit m;rintro e w2⟨rfl,q⟩;have p:TF w w2.drew:=q.draw;clear q);go_region;have E:=A.o _ p;go_wp2_with(go_fit E;rintro e Z⟨rfl,P,Q⟩;obtain⟨⟨y1,y2,y3,y4,y5,y6,y7,y8⟩,z⟩:=HF.o _ P Q;replace z:=i7 z;clear P Q);go_region
    all_goals go_wp2
    all_goals go_ret
    all_goals first|exact⟨rfl,z.o⟩|exact⟨rfl,z.o.draw⟩
end Go.Proofs.YtofcogekgcgjhaaGreatDoor
