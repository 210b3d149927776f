/- Packed. -/
import Derived.Lib.MinMax
import Derived.Test.YtofcogekgcgjhaaGreatDoorZzat
import Derived.Deep.Cut
set_option maxRecDepth 100000
set_option maxHeartbeats 8000000
namespace Go.Proofs.YtofcogekgcgjhaaGreatDoor.Ch
open Go.RowKit Go.Mine Go.Proofs.Tryz
abbrev KInt:Value->Prop:=MapKept.IsKey (.int .i64)
theorem kk(k:Int):KInt (.int .i64 k):=rfl
theorem keyInt:dH prog 3 KInt:=jP underlying3
theorem lY{P:Program}{w:World}{i:Array Oper}{rest:List Oper}{o:Oper}{a:Act}{g:Exit->Act->World->Prop}{K:Value->Prop}{b n:Nat}{m:Value->Option Value}
  (l:o.guard=none) (e f:Operand) (t:TypeId) (s:o.op=Op.lookup t e f false) (d c:TypeId) (j:dH P d K) (v:P.underlying t=some (.map d c))
  (z:Value) (y:(zeroValue c).run P w=.ok z w) (h:z8 K w b m n) (q:a.eval e=.map (some b)) (x:Value) (hx:a.eval f=x) (p:K x) (r:Value) (u:(m x).getD z=r)
  (k:wpList P i g rest (a.put o.dst r) w):wpList P i g (o::rest) a w:=
 qr l e f t s d c j v z y h q x hx p (by rw[u];exact k)
def iy(l:List Ln):Int:=l.foldl (fun n x=>max n (x.1+1)) 0
theorem zR(l:List Ln)(x:Ln):iy (l++[x])=max (iy l) (x.1+1):=by unfold iy;rw[List.foldl_append];rfl
def Bx(l:List Ln):Prop:=∀x∈l,0<=x.1∧x.1<1073741824
theorem jA(l:List Ln)(h:Bx l):0<=iy l∧iy l<=1073741824:=by
 have:∀(l:List Ln),Bx l->∀n,0<=n∧n<=1073741824->0<=l.foldl (fun n x=>max n (x.1+1)) n∧l.foldl (fun n x=>max n (x.1+1)) n<=1073741824:=by
  intro l
  induction l with|nil=>intro _ n h;exact h|cons x l c=>intro a n d;rw[List.foldl_cons];refine c (fun y b=>a y (LP _ b)) _ ?_;have:=a x (by simp);omega
 exact this l h 0 (by omega)
def zS(w:World)(a:Nat)(l:List Ln)(g:Nat)(n i:Value)(wr:World):Prop:=∃(j:Nat)(m:Value->Option Value)(b:Nat),j+g=l.length∧i=.int .i64 j∧n=.int .i64 (iy (l.take j))∧z8 KInt wr a m b∧(∀x v,m x=some v->∃c,v=.int .i64 c)∧TF w wr
theorem zT(a:Option Addr)(cap:Nat)(l:List Ln)(w:World)(h:S7 w a cap l)(Y:l.length<=100000)(N:Bx l):
  CZ 133 #[.slice a l.length cap] w (RT (.int .i64 (iy l)) w):=by
 have R:Hid (S7 w a cap l):=h;have E:Hid (Bx l):=N;obtain⟨L,y⟩:=EX l.length;have d:Hid (L=l.length∧L<=100000):=⟨y,by omega⟩;rw[<-y];clear h y Y N;have ad:=@run_makeMap prog;go_enter func133,ntmps133;go_wp2;have C:Hid (z8 KInt (w.alloc (.map #[] 0)) w.heap.size (fun _=>none) 0):=z8.made _ _;have G:Hid (zS w w.heap.size l L (.int .i64 0) (.int .i64 0) (w.alloc (.map #[] 0))):=⟨0,_,_,by have:=d.o.1;omega,rfl,rfl,C.o,by simp,TA⟩;go_loopg[4,10] L (fun g n i wr=>zS w w.heap.size l g n i wr)
 case atStart=>exact G.o
 case round=>
  clear G C;obtain⟨j,m,Q,I,rfl,rfl,J,M,P⟩:=hrel;have T:Hid (TF w wr):=P;have t:Hid (j+gk=l.length):=I;have u:Hid (z8 KInt wr w.heap.size m Q):=J;have D:Hid (∀x v,m x=some v->∃c,v=.int .i64 c):=M;clear P I J M;by_cases Z:j<L
  ·obtain⟨c,k⟩:∃c,l[j]?=some c:=⟨_,LB (by rw[<-d.o.1];exact Z)⟩;obtain⟨b,off,rfl,aa,c0,c1,c2⟩:=M8 (R.o.turned T.o) j c k;have z:=E.o c (LI k)
   have V:Hid (iy (l.take (j+1))=max (iy (l.take j)) (c.1+1)):=by
    have:iy (l.take (j+1))=max (iy (l.take j)) (c.1+1):=by rw[List.take_add_one,k];exact zR _ _
    exact this
   have p:∀W,CZ 212 #[.int .i64 c.1] W fun e w'=>e=.returned (.bool true)∧W=w':=fun W=>by have:=cP c.1 W;rw[show cO c.1=true by unfold cO;simp;omega]at this;exact this
   have ae:wrap64 (c.1+1)=c.1+1:=by simp only[wrap64];omega
   obtain⟨f,x2,x3⟩:=c;simp only at *;obtain⟨r,hr⟩:∃r,(m (.int .i64 f)).getD (.int .i64 0)=.int .i64 r:=by
    cases hx:m (.int .i64 f)with|none=>exact⟨0,rfl⟩|some v=>obtain⟨c,rfl⟩:=D.o _ _ hx;exact⟨c,rfl⟩
   have F:Hid (∀o,z8 KInt (wr.alloc o) w.heap.size m Q):=fun o=>u.o.congr ((d7.alloc (fun _=>False) wr o).block _ u.o.lt fun q=>q) fun _=>rfl
   have hz:∀W,(zeroValue 3).run prog W=.ok (.int .i64 0) W:=fun W=>by kernel_rfl
   clear k z;generalize iy (l.take j)=n at *
   go_wp2_with(first
    |(go_fit(p _);rintro e w5⟨rfl,rfl⟩)
    |(at_lookup;go_must (refine lY rfl _ _ 286 rfl 3 3 keyInt underlying286 (.int .i64 0) (hz _) (F.o _) rfl (.int .i64 f) rfl (kk _) (.int .i64 r) hr ?_))
    |(at_mapUpdate;go_must (refine mM rfl _ _ _ 286 rfl 3 3 keyInt underlying286 (F.o _) rfl (.int .i64 f) _ rfl rfl (kk _) ?_);intro s K B O;have ab:s.cell? ⟨wr.heap.size,0,none⟩=some (.int .i64 f):=(World.cell?_of_block (B.block wr.heap.size (by simp) fun q=>by have:=u.o.lt;omega)).trans (g9 (heap_alloc_last wr _) 0 _ rfl);have ac:wr.heap.size<s.heap.size:=(by rw[O];simp);have H:Hid (z8 KInt s w.heap.size _ _∧d7 (· =w.heap.size) _ s):=⟨K,B⟩;clear K B O))
   go_roundg (gk-1)
   case measure=>have:=t.o;have:=d.o;omega
   case rel=>
    refine⟨j+1,_,_,by have:=t.o;have:=d.o;omega,by have:=d.o;simp[wrap64];omega,by rw[V.o],H.o.1,?_,((T.o.new _).comp H.o.2 fun i hi q=>?_)⟩
    ·intro x v hx;split at hx
     ·exact⟨_,(Option.some.inj hx).symm⟩
     ·exact D.o x v hx
    ·rcases q with q|q
     ·exact q
     ·omega
  ·have X:j=L:=by have:=t.o;have:=d.o;omega
   subst X;have S:Hid (l.take j=l):=LQ (by have:=d.o.1;omega);have z:=jA l E.o;have p:∀W,CZ 212 #[.int .i64 (iy l)] W fun e w'=>e=.returned (.bool true)∧W=w':=fun W=>by have:=cP (iy l) W;rw[show cO (iy l)=true by unfold cO;simp;omega]at this;exact this
   rw[S.o];clear z;obtain⟨n,A⟩:=EX (iy l);rw[<-A]at p ⊢;have U:Hid (n=iy l):=A;clear A;go_wp2_with(go_fit(p _);rintro e w5⟨rfl,rfl⟩);go_ret;exact⟨by rw[<-U.o];rfl,T.o⟩
end Go.Proofs.YtofcogekgcgjhaaGreatDoor.Ch
namespace Go.Proofs.YtofcogekgcgjhaaGreatDoor
open Go.RowKit Go.Mine Go.Mine.Ac Go.Proofs.Tryz
abbrev dZ(f:AY):Value:=.agg #[.int .i64 f.state,.string f.bits]
def CB(a:World)(f:AY)(pl:List Nat)(g:Nat)(b:Value)(wr:World):Prop:=∃j:Nat,j+g=pl.length∧b=.int .i64 j∧(∀(t:Nat)x,t<j->pl[t]?=some x->U5 f.bits x=true)∧TF a wr
theorem rL(bs:ByteArray)(x y r q t:Nat)(e:y<bs.size)(d:y=x / 8)(b:r=x% 8)(a:q=bs[y].toNat / 2^r)(c:t=q% 2):U5 bs x=decide (t=1):=by unfold U5;rw[<-d,<-b,jy bs y e,Option.getD_some,Nat.shiftRight_eq_div_pow,<-a,<-c]
theorem zU(s:I2)(f:AY)(path:ByteArray)(w:World)(aa:s.seed<4294967296)(Z:path.size<=1000000000)(c:f.bits.size<=1000000000):
  CZ 60 #[J3 s,dZ f,.string path] w (RT (.bool (U6 s f path)) w):=by
 obtain⟨V,I⟩:∃V:Ending->World->Prop,V=(RT (.bool (U6 s f path)) w):=⟨_,rfl⟩;have T:Hid (V=(RT (.bool (U6 s f path)) w)):=I;rw[<-I];obtain⟨st,bs⟩:=f;unfold dZ;dsimp only at c ⊢;obtain⟨A,H⟩:=EX ((w.alloc (.cells #[.int .i64 s.h,.int .i64 s.p,.int .i64 s.m,.int .u32 s.seed] 24)).alloc (.cells #[.int .i64 st,.string bs] 46));have ae:Hid (A=(w.alloc (.cells #[.int .i64 s.h,.int .i64 s.p,.int .i64 s.m,.int .u32 s.seed] 24)).alloc (.cells #[.int .i64 st,.string bs] 46)):=H;obtain⟨N,O,P⟩:=p8 (w:=w) (.cells #[.int .i64 s.h,.int .i64 s.p,.int .i64 s.m,.int .u32 s.seed] 24) (.cells #[.int .i64 st,.string bs] 46);rw[<-H]at N O P;have U:Hid (TF w A):=N;have R:Hid (∀W,TF A W->W.cell? ⟨w.heap.size+1,0,none⟩=some (.int .i64 st)∧W.cell? ⟨w.heap.size+1,1,none⟩=some (.string bs)∧w.heap.size+1<W.heap.size∧W.cell? ⟨w.heap.size,0,none⟩=some (.int .i64 s.h)∧W.cell? ⟨w.heap.size,1,none⟩=some (.int .i64 s.p)∧W.cell? ⟨w.heap.size,2,none⟩=some (.int .i64 s.m)∧W.cell? ⟨w.heap.size,3,none⟩=some (.int .u32 s.seed)∧w.heap.size<W.heap.size):=fun W q=>by have c:=j9 P q id;have B:=j9 O q id;exact⟨g9 c 0 _ rfl,g9 c 1 _ rfl,i6 c,g9 B 0 _ rfl,g9 B 1 _ rfl,g9 B 2 _ rfl,g9 B 3 _ rfl,i6 B⟩
 obtain⟨v0,v1,v2,v3,v4,v5,v6,v7⟩:=R.o A TQ;by_cases h1:st=1
 ·subst h1;have K:=km s path (8*bs.size) A aa Z (by omega);unfold dY at K;have aj:U6 s ⟨1,bs⟩ path=(o0 s path (8*bs.size)).all fun j=>U5 bs j:=by unfold U6;simp
  have u:∀x∈o0 s path (8*bs.size),x<8*bs.size:=fun x hx=>by
   unfold o0 at hx;split at hx
   ·rename_i q;obtain⟨i,-,rfl⟩:=List.mem_map.1 hx;exact Nat.mod_lt _ (by omega)
   ·simp at hx
  have E:Hid (U6 s ⟨1,bs⟩ path=(o0 s path (8*bs.size)).all fun j=>U5 bs j):=aj;have ad:Hid (∀x∈o0 s path (8*bs.size),x<8*bs.size):=u;have HB:Hid (bs.size<=1000000000):=c;have ai:(o0 s path (8*bs.size)).length<=16:=by
   unfold o0;split
   ·rename_i q;rw[List.length_map,List.length_range];have:=q.1.2.1;omega
   ·simp
  have ap:Hid ((o0 s path (8*bs.size)).length<=16):=ai;generalize o0 s path (8*bs.size)=pl at *;obtain⟨n,J⟩:=EX (8*bs.size);have hw:wrap64 ((8:Int)*(bs.size:Int))=(n:Int):=by rw[J];simp only[wrap64];omega
  rw[<-J]at K ad;have HN:Hid (n=8*bs.size):=J;have aq:=i7 K;clear I H N O P aa Z c aj u ai K J;go_enter func60,ntmps60;go_wp2_with fail;rw[<-ae.o];go_wp2_with(go_fit aq.o;rintro e w1⟨v,rfl,ab,l⟩;obtain⟨k0,k1,k2,-⟩:=R.o w1 l;obtain⟨a,cap,rfl,-,-⟩:=ab.value;have SL:=i7 ab;replace l:=i7 l;clear ab);obtain⟨L,G⟩:=EX ((E3 pl).length);have d:Hid (L=pl.length∧L=(E3 pl).length):=⟨by rw[G];simp[E3],G⟩;rw[<-G];clear G;go_loopg[20] L (fun g iv wr=>CB w1 ⟨1,bs⟩ pl g iv wr)
  case atStart=>exact⟨0,by rw[d.o.1,Nat.zero_add],rfl,fun t x l=>by omega,TQ⟩
  case round=>
   obtain⟨j,ah,rfl,af,k⟩:=hrel;have Q:Hid (j+gk=pl.length):=ah;have HA:Hid (∀(t:Nat)x,t<j->pl[t]?=some x->U5 bs x=true):=af;have F:Hid (TF w1 wr):=k;obtain⟨k0,k1,k2,-⟩:=R.o wr (l.o.tr k);clear ah af k;by_cases u:j<L
   ·obtain⟨x,hx⟩:∃x,pl[j]?=some x:=⟨_,LB (by rw[<-d.o.1];exact u)⟩;have av:=ad.o x (LI hx);have HX:Hid (pl[j]?=some x):=hx;obtain⟨y,hy⟩:=EX (x / 8);have ao:y<bs.size:=by have:=HN.o;omega
    have ar:=jy bs y ao;obtain⟨b,c⟩:=EX (bs[y].toNat);obtain⟨g,off,aw,am,-,-,-,ag,-,ax⟩:=(SL.o.turned F.o fun _ _ z=>z).opens (by rw[<-d.o.2];omega);simp only[Value.slice.injEq]at am;obtain⟨rfl,-,-⟩:=am;have c0:wr.cell? ⟨g,off+j,none⟩=some (.int .i64 (x:Nat)):=by rw[ag j (by rw[<-d.o.2];omega)];unfold E3;rw[List.getElem?_map,List.getElem?_map,hx];rfl
    have X:(x:Int) / 8=(y:Int):=by rw[hy];omega
    obtain⟨r,k⟩:=EX (x% 8);have Y:(x:Int)% 8=(r:Int):=by rw[k];omega
    have HY:Hid (y=x / 8∧r=x% 8∧b=bs[y].toNat):=⟨hy,k,c⟩;have ay:r<8:=by omega
    obtain⟨q,M⟩:=EX (bs[y].toNat / 2^r);have az:((bs[y].toNat:Nat):Int) / 2^r=(q:Int):=by rw[M];push_cast;rfl
    have au:q<256:=by rw[M];exact Nat.lt_of_le_of_lt (Nat.div_le_self _ _) bs[y].toNat_lt
    obtain⟨t,ac⟩:=EX (q% 2);have ak:bits .and .u8 (q:Int) 1=(t:Int):=by have:=u8_and_nat q 1 au (by decide);rw[Nat.and_one_is_mod,<-ac]at this;exact this
    have S:Hid (q=bs[y].toNat / 2^r∧t=q% 2):=⟨M,ac⟩;clear ar M ac;have an:wrap64 (y:Int)=(y:Int):=by have:=HB.o;simp only[wrap64];omega
    clear ag hy k;have HW:Hid (wrap64 ((j:Int)+1)=((j+1:Nat):Int)):=i7 (by have:=ap.o;have:=d.o.1;simp[wrap64];omega);clear hx av c;have E2:Hid ((x:Int)% 8=(r:Int)):=Y;clear Y;have D:Hid (U5 bs x=decide (t=1)):=rL bs x y r q t ao HY.o.1 HY.o.2.1 S.o.1 S.o.2;rcases(show t=0∨t=1 by have:=S.o.2;omega)with C|C
    ·rw[C]at ak D;have hz:(((0:Nat):Int)==0)=true:=rfl;clear C;go_upto_region 6 with(fail)
     iterate 18 go_step
     clear X an
     iterate 4 go_step
     rw[E2.o];go_wp2;rw[T.o];refine⟨?_,U.o.tr (l.o.trans F.o fun _ _ z=>z)⟩;rw[E.o];have:(pl.all fun j=>U5 bs j)=false:=by rw[List.all_eq_false];exact⟨x,LI HX.o,by rw[D.o];decide⟩
     rw[this];rfl
    ·rw[C]at ak D;have hz:(((1:Nat):Int)==0)=false:=rfl;clear C;go_upto_region 6 with(fail)
     iterate 18 go_step
     clear X an
     iterate 4 go_step
     rw[E2.o];go_wp2;go_roundg (gk-1)
     case measure=>have:=Q.o;have:=d.o.1;omega
     case rel=>
      refine⟨j+1,by have:=Q.o;have:=d.o.1;omega,by rw[HW.o],fun t' x' h1 h2=>?_,F.o⟩;rcases Nat.lt_or_eq_of_le (Nat.le_of_lt_succ h1)with z|z
      ·exact HA.o t' x' z h2
      ·rw[z,HX.o]at h2;obtain rfl:=Option.some.inj h2;show U5 bs x=true;rw[D.o];decide
   ·have hj:j=L:=by have:=Q.o;have:=d.o.1;omega
    have HJ:Hid (j=L):=hj;have hd:decide (j<L)=false:=LD u;clear hj u;go_wp2;rw[T.o];refine⟨?_,U.o.tr (l.o.trans F.o fun _ _ z=>z)⟩;rw[E.o];have:(pl.all fun j=>U5 bs j)=true:=by rw[List.all_eq_true];intro x hx;obtain⟨t',al⟩:=LM hx;have h1:=(LA.1 al).1;exact HA.o t' x (by rw[HJ.o,d.o.1];exact h1) al
    rw[this];rfl
 ·have E:Hid (U6 s ⟨st,bs⟩ path=true):=i7 (by unfold U6;simp[h1]);have X:(st==1)=false:=by simp[h1]
  have Y:(st !=1)=true:=by simp[h1]
  clear I H N O P aa Z c h1;go_enter func60,ntmps60;go_wp2_with fail;rw[<-ae.o];go_wp2;rw[T.o];exact⟨by rw[E.o];rfl,U.o⟩
end Go.Proofs.YtofcogekgcgjhaaGreatDoor
namespace Go.Proofs.YtofcogekgcgjhaaGreatDoor.Ch
open Go.RowKit Go.Mine Go.Proofs.Tryz
theorem zW(x:Ln)(k:Int)(p:Nat)(w:World)(hx:w.cell? ⟨p,0,none⟩=some (.int .i64 k)):
  CZ 140 #[EP x,pt p] w (RT (.bool (x.1==k)) w):=by
 have a:=n7 hx;go_enter func140,ntmps140;go_wp2;go_ret;exact⟨by rfl,TA⟩
theorem uD(a:Option Addr)(cap p:Nat)(l:List Ln)(k:Int)(w:World)(h:S7 w a cap l)(hx:w.cell? ⟨p,0,none⟩=some (.int .i64 k)):
  CZ 230 #[.slice a l.length cap,.func (.func 140) #[] #[pt p]] w (qA w l k):=by
 have F:Hid (S7 w a cap l):=h;have A:Hid (w.cell? ⟨p,0,none⟩=some (.int .i64 k)):=hx;obtain⟨L,r⟩:=EX l.length;have m:Hid (L=l.length):=r;rw[<-r];have H:Hid (L<=9223372036854775807):=(by rw[r];have:=h.1;have:=h.2.1;simp only[maxLen]at this;omega:L<=9223372036854775807);clear h r hx;go_enter func230,ntmps230;go_wp2;have z:Hid (kQ w l k L (.int .i64 0) w):=⟨0,by rw[m.o,Nat.zero_add],rfl,fun t _ d=>by omega,TQ⟩;go_loopg[8] L (fun g i wr=>kQ w l k g i wr)
 case atStart=>exact z.o
 case round=>
  obtain⟨j,B,rfl,D,d⟩:=hrel;have N:Hid (∀t e,t<j->l[t]?=some e->e.1≠k):=D;have T:Hid (TF w wr):=d;have y:Hid (j+gk=l.length):=B;clear D d B z;by_cases I:j<L
  ·obtain⟨c,n⟩:∃c,l[j]?=some c:=⟨_,LB (by rw[<-m.o];exact I)⟩;obtain⟨b,off,rfl,O,J,K,M⟩:=M8 (F.o.turned T.o) j c n;have E:wrap64 ((j:Int)+1)=((j+1:Nat):Int):=by have:=H.o;simp[wrap64];omega
   have G:Hid (wrap64 ((j:Int)+1)=((j+1:Nat):Int)):=E;have C:Hid (l[j]?=some c):=n;have s:CZ 140 #[EP c,pt p] wr (RT (.bool (c.1==k)) wr):=zW c k p wr (by rw[World.cell?_of_block (w':=wr) (T.o.block p (n7 A.o) fun q=>q)];exact A.o);clear n E;by_cases f:c.1=k
   ·rw[show(c.1==k)=true by simp[f]]at s;have u:Hid (c.1=k):=f;clear f;go_wp2_with(go_fit s;rintro e w2⟨rfl,x⟩);go_ret;refine⟨T.o.tr x,.inr ⟨?_,j,rfl⟩⟩;unfold H2;rw[List.any_eq_true];exact⟨c,LI C.o,by simpa using u.o⟩
   ·rw[show(c.1==k)=false by simp[f]]at s;have u:Hid (c.1≠k):=f;clear f;go_wp2_with(go_fit s;rintro e w2⟨rfl,x⟩);go_roundg (gk-1)
    case measure=>have:=y.o;have:=m.o;omega
    case rel=>
     refine⟨j+1,by have:=y.o;have:=m.o;omega,by rw[G.o],fun t e d v=>?_,T.o.tr x⟩;rcases Nat.lt_or_eq_of_le (Nat.le_of_lt_succ d)with q|q
     ·exact N.o t e q v
     ·rw[q,C.o]at v;obtain rfl:=Option.some.inj v;exact u.o
  ·go_wp2;go_ret;refine⟨T.o,.inl ⟨?_,rfl⟩⟩;unfold H2;rw[List.any_eq_false];intro c n;obtain⟨t,d⟩:=LM n;have:=(LA.1 d).1;simpa using N.o t c (by have:=m.o;omega) d
theorem mX(a:Option Addr)(cap p:Nat)(l:List Ln)(k:Int)(w:World)(h:S7 w a cap l)(hx:w.cell? ⟨p,0,none⟩=some (.int .i64 k)):
  CZ 139 #[.slice a l.length cap,.func (.func 140) #[] #[pt p]] w (RT (.bool (H2 l k)) w):=by
 have f:=uD a cap p l k w h hx;clear h hx;generalize c:H2 l k=b;have B:Hid (H2 l k=b):=c;clear c;go_enter func139,ntmps139;go_wp2_with fail;refine f.mono ?_;rintro e i⟨d,⟨h1,rfl⟩|⟨h1,j,rfl⟩⟩
 ·rw[B.o]at h1;subst h1;go_wp2;go_ret;exact⟨rfl,d⟩
 ·rw[B.o]at h1;subst h1;have g:decide ((0:Int)<=(j:Int))=true:=by simp
  go_wp2;go_ret;exact⟨rfl,d⟩
end Go.Proofs.YtofcogekgcgjhaaGreatDoor.Ch
namespace Go.Proofs.YtofcogekgcgjhaaGreatDoor
open Go.RowKit Go.Mine Go.Mine.Ac Go.Proofs.Tryz
def CC(w:World)(n g:Nat)(a:Value)(wr:World):Prop:=∃i:Nat,a=.int .i64 i∧i+g=n∧TF w wr
theorem iS{w:World}{m p:Nat->Prop}{b c:Option Addr}{d e:Nat}{l:List Int}(h1:p7 w m b d l)(h2:p7 w p c e l)(C:l.length<=1000000):
  CZ 107 #[.slice b l.length d,.slice c l.length e] w (RT (.bool true) w):=by
 obtain⟨n,f⟩:=EX l.length;have k:Hid (n=l.length∧n<=1000000):=i7 ⟨f,by omega⟩;have t:Hid (p7 w m b d l):=h1;have u:Hid (p7 w p c e l):=h2;rw[<-f];have D:((n:Int)==(n:Int))=true:=by simp
 have E:((n:Int) !=(n:Int))=false:=by simp
 have h:Hid (CC w n n (.int .i64 0) w):=⟨0,rfl,by omega,TQ⟩;clear h1 h2 f C;go_enter func107,ntmps107;go_wp2;go_loopg[5] n (fun g v wr=>CC w n g v wr)
 case atStart=>exact h.o
 case round=>
  obtain⟨i,rfl,q,s⟩:=hrel;have a:Hid (TF w wr):=s;have j:Hid (i+gk=n):=q;clear q h s;by_cases r:i<n
  ·have A:decide ((i:Int)<(n:Int))=true:=by simp;omega
   have B:decide (i<n)=true:=by simp;omega
   obtain⟨x,hx⟩:∃x,l[i]?=some x:=⟨_,LB (by rw[<-k.o.1];exact r)⟩;obtain⟨b1,o1,rfl,-,H,F⟩:=B8 (t.o.turned a.o fun _ _ z=>z) i x hx;obtain⟨b2,o2,rfl,-,I,G⟩:=B8 (u.o.turned a.o fun _ _ z=>z) i x hx;have y:Hid (wrap64 ((i:Int)+1)=((i+1:Nat):Int)):=i7 (by have:=k.o;simp[wrap64];omega);clear hx;go_wp2;go_quiet (fail);go_wp2;go_roundg (gk-1)
   case measure=>have:=j.o;omega
   case rel=>exact⟨i+1,by rw[y.o],by have:=j.o;omega,a.o.drawN _⟩
  ·have A:decide ((i:Int)<(n:Int))=false:=by simp;omega
   have B:decide (i<n)=false:=by simp;omega
   clear r;go_wp2;go_ret;exact⟨rfl,a.o⟩
end Go.Proofs.YtofcogekgcgjhaaGreatDoor
