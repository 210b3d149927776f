/- Packed. -/
import Derived.Test.YtofcogekgcgjhaaGreatDoorZzao
set_option maxRecDepth 100000
set_option maxHeartbeats 8000000
namespace Go.Proofs.YtofcogekgcgjhaaGreatDoor
open Go.RowKit Go.Mine Go.Mine.Ac Go.Proofs.Tryz
def ic(l:List Int):List Value:=l.map fun x=>Value.int .i64 x
theorem zJ(l:List Int):(ic l).length=l.length:=by simp[ic]
theorem gU{w:World}{S:Nat->Prop}{v:Value}{l:List Int}(h:Sl w S 3 1 v (ic l) l.length)(e:∀x∈l,eO x):∃a cap,v=.slice a l.length cap∧p7 w S a cap l:=by
 by_cases d:0<l.length
 ·obtain⟨g,off,cap,rfl,f,c,b,j,-,m⟩:=h.opens d;refine⟨_,cap,rfl,c,b,e,fun _=>⟨g,off,rfl,f,m,fun i x hx=>?_⟩⟩;have k:=(LA.1 hx).1;rw[j _ (by rw[Nat.mul_one];exact k)];simp[ic,hx]
 ·obtain⟨a,cap,rfl,c,b⟩:=h.value;exact⟨a,cap,rfl,c,b,e,fun q=>absurd q d⟩
theorem ez{w:World}{S:Nat->Prop}{a:Option Addr}{cap:Nat}{l:List Int}(h:p7 w S a cap l):Src prog 1 41 (.slice a l.length cap) l.length (ic l) w:=by
 by_cases e:0<l.length
 ·obtain⟨g,off,rfl,-,-,f⟩:=h.2.2.2 e;refine Src.ofSlice _ underlying41 _ _ _ _ (by simp[ic]) (fun j d b=>?_) (fun d c=>?_)
  ·simp only[ic,List.getElem?_map,Option.map_eq_some_iff]at b;obtain⟨x,hx,rfl⟩:=b;rw[Addr.add_lit];exact f j x hx
  ·obtain⟨x,-,rfl⟩:=List.mem_map.1 c;rfl
 ·have:l=[]:=LO (by omega);subst this;cases a with
  |none=>exact Src.ofNil _ underlying41 cap
  |some ad=>exact Src.ofSlice _ underlying41 ad 0 cap [] rfl (fun j d b=>by simp at b) fun d c=>by simp at c
theorem up(t:List Ent):∀a∈o6 t,a.oneCell'=true:=by intro a b;obtain⟨x,-,hx⟩:=List.mem_flatMap.1 b;simp only[List.mem_cons,List.not_mem_nil,or_false]at hx;rcases hx with rfl|rfl<;>rfl
theorem ecells_at:∀{t:List Ent}{j:Nat}{a:Value},(o6 t)[j]?=some a->∃(i:Nat)(x:Ent),t[i]?=some x∧((j=i*2∧a=.string x.1)∨(j=i*2+1∧a=.int .u32 x.2))
 | [],j,a,h=>by simp[o6]at h
 |y::t,0,a,h=>⟨0,y,rfl,.inl ⟨rfl,by simpa[o6]using h.symm⟩⟩
 |y::t,1,a,h=>⟨0,y,rfl,.inr ⟨rfl,by simpa[o6]using h.symm⟩⟩
 |y::t,j+2,a,h=>by obtain⟨i,x,h1,h2⟩:=ecells_at (t:=t) (j:=j) (by simpa[o6]using h);exact⟨i+1,x,by simpa using h1,h2.elim (fun q=>.inl ⟨by omega,q.2⟩) fun q=>.inr ⟨by omega,q.2⟩⟩
theorem lL{w:World}{S:Nat->Prop}{a:Option Addr}{cap:Nat}{t:List Ent}(h:H1 w S a cap t):Src prog 2 65 (.slice a t.length cap) t.length (o6 t) w:=by
 by_cases e:0<t.length
 ·obtain⟨g,off,rfl,-,-,c⟩:=h.2.2.2 e;refine Src.ofSlice _ underlying65 _ _ _ _ (uj t) (fun j d b=>?_) (up t);obtain⟨i,x,hx,f⟩:=ecells_at b;rw[Addr.add_lit];rcases f with⟨rfl,rfl⟩|⟨rfl,rfl⟩
  ·exact(c i x hx).1
  ·exact(c i x hx).2
 ·have:t=[]:=LO (by omega);subst this;cases a with
  |none=>exact Src.ofNil _ underlying65 cap
  |some ad=>exact Src.ofSlice _ underlying65 ad 0 cap [] rfl (fun j d b=>by simp at b) fun d k=>by simp at k
theorem ry{w:World}{S:Nat->Prop}{cap:Nat}{t:List Ent}(h:H1 w S none cap t):t.length=0:=by apply LK;intro q;obtain⟨_,_,z,-⟩:=h.2.2.2 (by omega);simp at z
theorem lN{w:World}{S:Nat->Prop}{cap:Nat}{l:List Int}(h:p7 w S none cap l):l.length=0:=by apply LK;intro q;obtain⟨_,_,z,-⟩:=h.2.2.2 (by omega);simp at z
theorem O4{w:World}{rs:Nat->Nat}{p:Nat}{d f c:Value}{s:St}(h:F4 140 w rs p d f c s):CZ 30 #[pt p] w fun e w'=>e=.returned (.int .i64 s.commits.length)∧w=w':=by obtain⟨i,b,-⟩:=h.commits;obtain⟨a,cap,rfl,-,-⟩:=b.value;have g:=g9 h.blk 2 _ rfl;have j:=i6 h.blk;clear h b;go_enter func30,ntmps30;go_wp2;go_ret;exact⟨rfl,rfl⟩
theorem nG{w:World}{rs:Nat->Nat}{p:Nat}{c d b:Value}{s:St}(h:F4 140 w rs p c d b s):CZ 66 #[pt p] w fun e w'=>e=.returned (.int .i64 (if s.dead then 8 else 0))∧w=w':=by
 have a:=g9 h.blk 3 _ rfl;have g:=i6 h.blk;clear h;obtain⟨tr,f,dead⟩:=s;dsimp only at a ⊢;cases dead with
 |true=>go_enter func66,ntmps66;go_wp2;go_ret;exact⟨rfl,rfl⟩
 |false=>go_enter func66,ntmps66;go_wp2;go_ret;exact⟨rfl,rfl⟩
def iL(w:World)(s:St)(n:Int)(e:Ending)(w':World):Prop:=∃v,e=.returned (.tuple #[.agg #[v,.int .i64 (A8 s n).1.tree],.int .i64 ((A8 s n).2:Nat)])∧Sl w' (fun b=>w.heap.size<=b) 3 1 v (ic (A8 s n).1.par) (A8 s n).1.par.length∧TF w w'
theorem F8.at {w:World} {rs:Nat->Nat} {e:Value} {l:List Cm} (h:F8 w rs e l) {i:Nat} {c:Cm} (j:l[i]?=some c):∃g off cap a d,e=.slice (some ⟨g,off,none⟩) l.length cap∧g<w.heap.size∧w.cell? ⟨g,off+i*2,none⟩=some (.slice a c.par.length d)∧w.cell? ⟨g,off+i*2+1,none⟩=some (.int .i64 c.tree)∧p7 w (fun b=>rs b=4) a d c.par:=by
 obtain⟨o,n,k⟩:=h;obtain⟨a,d,h1,h2,h3⟩:=k i c j;have p:=(LA.1 j).1;obtain⟨g,off,cap,rfl,-,-,-,f,-,m⟩:=n.opens (by omega);refine⟨g,off,cap,a,d,rfl,m,?_,?_,h3⟩
 ·rw[f _ (by omega)];exact h1
 ·rw[Nat.add_assoc,f _ (by omega)];exact h2
theorem eT{s:St}{n:Nat}{c:Cm}(h:s.commits[n]?=some c):A8 s (n:Int)=(c,0):=by unfold A8;rw[if_neg (by omega)];simp[h]
theorem oW{s:St}{n:Int}(h:n<0∨(s.commits.length:Int)<=n):A8 s n=(⟨[],0⟩,9):=by
 unfold A8;by_cases a:n<0
 ·rw[if_pos a]
 ·rw[if_neg a];have:s.commits[n.toNat]?=none:=List.getElem?_eq_none (by omega);rw[this]
theorem Ez{w:World}{r:Nat}{T:TypeId}{a b:Value}(h:w.heap[r]?=some (.cells #[a,b] T))(x y:Value):((w.setCell ⟨r,0,none⟩ x).setCell ⟨r,1,none⟩ y).heap[r]?=some (.cells #[x,y] T):=by have h1:=j8 h (o:=0) x;have h2:=j8 h1 (o:=1) y;simpa using h2
theorem kg{w:World}{rs:Nat->Nat}{p:Nat}{dv tv U:Value}{s:St}(h:F4 140 w rs p dv tv U s)(n:Int)(hL:s.commits.length<=1000000)(N:∀c∈s.commits,c.par.length<=1000000):CZ 192 #[pt p,.int .i64 n] w (iL w s n):=by
 obtain⟨D,C⟩:=EX (iL w s n);have J:Hid (D=iL w s n):=C;rw[<-C];have c2:w.cell? ⟨p,2,none⟩=some U:=g9 h.blk 2 _ rfl;have ac:=i6 h.blk;by_cases H:n<0∨(s.commits.length:Int)<=n
 ·have f:Hid (A8 s n=(⟨[],0⟩,9)):=oW H;obtain⟨aa,Y,-⟩:=h.commits;obtain⟨a,cap,rfl,-,-⟩:=Y.value;generalize s.commits.length=L at *;clear h C Y N;by_cases X:n<0
  ·have V:decide (n<0)=true:=LX X;clear H;go_enter func192,ntmps192;go_wp2;have u:(w.alloc (.cells #[.slice none 0 0,.int .i64 0] 55)).cell? ⟨w.heap.size,0,none⟩=some (.slice none 0 0):=g9 (i8 w _) 0 _ rfl;have y:(w.alloc (.cells #[.slice none 0 0,.int .i64 0] 55)).cell? ⟨w.heap.size,1,none⟩=some (.int .i64 0):=g9 (i8 w _) 1 _ rfl;refine bodyPost_ret (v:=.tuple #[.agg #[.slice none 0 0,.int .i64 0],.int .i64 9]) (by simp[results,Tryz.results192,go_sem,u,y]) rfl ?_;rw[J.o];exact⟨.slice none 0 0,by rw[f.o];rfl,by rw[f.o];exact Sl.nil _ _ _ _,TA⟩
  ·have V:decide (n<0)=false:=LD X;have e2:decide ((L:Int)<=n)=true:=LX (by omega);clear H;go_enter func192,ntmps192;go_wp2;have u:(w.alloc (.cells #[.slice none 0 0,.int .i64 0] 55)).cell? ⟨w.heap.size,0,none⟩=some (.slice none 0 0):=g9 (i8 w _) 0 _ rfl;have y:(w.alloc (.cells #[.slice none 0 0,.int .i64 0] 55)).cell? ⟨w.heap.size,1,none⟩=some (.int .i64 0):=g9 (i8 w _) 1 _ rfl;refine bodyPost_ret (v:=.tuple #[.agg #[.slice none 0 0,.int .i64 0],.int .i64 9]) (by simp[results,Tryz.results192,go_sem,u,y]) rfl ?_;rw[J.o];exact⟨.slice none 0 0,by rw[f.o];rfl,by rw[f.o];exact Sl.nil _ _ _ _,TA⟩
 ·obtain⟨m,rfl⟩:∃m:Nat,n=(m:Int):=⟨n.toNat,by omega⟩;obtain⟨c,G⟩:∃c,s.commits[m]?=some c:=⟨_,LB (by omega)⟩;obtain⟨g,off,cap,a,j,rfl,ab,d0,d1,E⟩:=h.commits.at G;have f:Hid (A8 s (m:Int)=(c,0)):=eT G;have Z:Hid (∀x∈c.par,eO x):=E.2.2.1;have hm:m<s.commits.length:=by omega
  have V:decide ((m:Int)<0)=false:=LD (by omega);have e2:decide ((s.commits.length:Int)<=(m:Int))=false:=LD (by omega);have e3:decide (s.commits.length<=m)=false:=LD (by omega);obtain⟨d,F⟩:=EX ((w.alloc (.cells #[.slice none 0 0,.int .i64 0] 55)).alloc (.cells #[.slice a c.par.length j,.int .i64 c.tree] 55));have K:Hid (d=(w.alloc (.cells #[.slice none 0 0,.int .i64 0] 55)).alloc (.cells #[.slice a c.par.length j,.int .i64 c.tree] 55)):=F;obtain⟨P,Q,l⟩:=p8 (w:=w) (.cells #[.slice none 0 0,.int .i64 0] 55) (.cells #[.slice a c.par.length j,.int .i64 c.tree] 55);rw[<-F]at P Q l;have T:Hid (TF w d):=P;have O:Hid (∀W,TF d W->CZ 65 #[.slice a c.par.length j] W fun e w'=>∃v,e=.returned v∧Sl w' (fun b=>W.heap.size<=b) 3 1 v (ic c.par) c.par.length∧TF W w'):=fun W hW=>dj (a:=a) (n:=c.par.length) (cap:=j) (xs:=ic c.par) W (fun w' q=>ez (E.turned ((T.o.tr hW).tr q) fun _ _ z=>z)) (fun q=>by subst q;exact lN E) (by have:=N c (LI G);omega)
  have R:Hid (∀W,TF d W->W.heap[w.heap.size]?=some (.cells #[.slice none 0 0,.int .i64 0] 55)∧W.cell? ⟨w.heap.size+1,0,none⟩=some (.slice a c.par.length j)∧W.cell? ⟨w.heap.size+1,1,none⟩=some (.int .i64 c.tree)∧w.heap.size+1<W.heap.size):=fun W q=>by have r:=j9 l q id;exact⟨j9 Q q id,g9 r 0 _ rfl,g9 r 1 _ rfl,i6 r⟩
  have TD:Hid (TF d ((w.alloc (.cells #[.slice none 0 0,.int .i64 0] 55)).alloc (.cells #[.slice a c.par.length j,.int .i64 c.tree] 55)).drew):=i7 (by rw[F];exact TD);obtain⟨par,tree⟩:=c;dsimp only at d0 d1 Z O R K TD;generalize s.commits.length=L at *;clear h C N H G E F P Q l;go_enter func192,ntmps192;go_wp2_with fail;go_region_with (go_fit(O.o _ TD.o);rintro e w2⟨v,rfl,I,t⟩;replace t:=TD.o.tr t;rw[<-K.o]at I;obtain⟨k,a1,a2,a3⟩:=R.o w2 t;have f0:=g9 k 0 _ rfl;have f1:=g9 k 1 _ rfl;have g0:=j7 k 0;have g1:=j7 k 1;have M:Hid (Sl w2 (fun b=>d.heap.size<=b) 3 1 v (ic par) par.length∧TF d w2∧w2.heap[w.heap.size]?=some (.cells #[.slice none 0 0,.int .i64 0] 55)):=⟨I,t,k⟩;obtain⟨A,B,rfl,-,-⟩:=I.value;clear I t O k)
  all_goals go_wp2
  all_goals
   have key:=Ez M.o.2.2 (.slice A par.length B) (.int .i64 tree);have u:=g9 key 0 _ rfl;have y:=g9 key 1 _ rfl;refine bodyPost_ret (v:=.tuple #[.agg #[.slice A par.length B,.int .i64 tree],.int .i64 0]) (by simp[results,Tryz.results192,go_sem,u,y]) rfl ?_;rw[J.o];have hz:d.heap.size=w.heap.size+2:=by rw[K.o];simp
   have l:d7 (· =w.heap.size) w2 ((w2.setCell ⟨w.heap.size,0,none⟩ (.slice A par.length B)).setCell ⟨w.heap.size,1,none⟩ (.int .i64 tree)):=(d7.setCell (S:=(· =w.heap.size)) (p:=⟨w.heap.size,0,none⟩) rfl _).set (p:=⟨w.heap.size,1,none⟩) rfl _;refine⟨.slice A par.length B,by rw[f.o];rfl,?_,(T.o.tr M.o.2.1).comp l fun i hi q=>q.elim id fun q=>by omega⟩;rw[f.o];exact(M.o.1.turned l fun b r q=>by omega).widen fun b r=>by omega
theorem ik{s:ByteArray}:∀{l:Nms}(i:Nat),(∀j x,j<i->l[j]?=some x->x.1≠s)->findN l s=findN (l.drop i) s
  | [],i,_=>by simp
  |x::l,0,_=>by simp
  |x::l,i+1,h=>by rw[List.drop_succ_cons,findN,if_neg (h 0 x (by omega) rfl)];exact ik i fun j y b a=>h (j+1) y (by omega) (by simpa using a)
theorem uq{s:ByteArray}{l:Nms}{i:Nat}{x:ByteArray×Nat}(h:∀j x,j<i->l[j]?=some x->x.1≠s)(hx:l[i]?=some x)(b:x.1=s):findN l s=some x.2:=by
  rw[ik i h];have:l.drop i=x::l.drop (i+1):=by obtain⟨a,e⟩:=LA.1 hx;rw[<-e];exact List.drop_eq_getElem_cons a
  rw[this,findN,if_pos b]
theorem xO{s:ByteArray}{l:Nms}{i:Nat}(h:∀j x,j<i->l[j]?=some x->x.1≠s)(a:l.length<=i):findN l s=none:=by rw[ik i h,List.drop_eq_nil_of_le a];rfl
theorem iM{a b:ByteArray}(h:a=b):(a.toList==b.toList)=true:=by rw[h];simp
theorem eA{a b:ByteArray}(h:a≠b):(a.toList==b.toList)=false:=by rw[ByteArray.toList_eq,ByteArray.toList_eq];simp only[beq_eq_false_iff_ne,ne_eq];intro q;exact h (ByteArray.ext (Array.toList_inj.1 q))
def Cw(w:World)(l:Nms)(s:ByteArray)(g:Nat)(a:Value)(wr:World):Prop:=∃i:Nat,a=.int .i64 i∧i+g=l.length∧(∀j x,j<i->l[j]?=some x->x.1≠s)∧TF w wr
def ur(w:World)(l:Nms)(s:ByteArray)(e:Ending)(w':World):Prop:=TF w w'∧((findN l s=none∧e=.returned (.int .i64 (-1)))∨∃(i:Nat)(k:Nat),l[i]?=some (s,k)∧findN l s=some k∧e=.returned (.int .i64 i))
theorem nH{S:Nat->Prop}{v:Value}{l:Nms}(s:ByteArray)(w:World)(h:Sl w S 242 2 v (D4 l) l.length)(P:l.length<=100000):
    CZ 243 #[v,.string s] w (ur w l s):=by
  obtain⟨D,r⟩:=EX (ur w l s);have A:Hid (D=ur w l s):=r;rw[<-r];obtain⟨n,t⟩:=EX l.length;have b:Hid (n=l.length∧n<=100000):=i7 ⟨t,by omega⟩;have K:Hid (Sl w S 242 2 v (D4 l) l.length):=h;have z:Hid (Cw w l s n (.int .i64 0) w):=⟨0,rfl,by omega,fun j x E=>absurd E (Nat.not_lt_zero _),TQ⟩;obtain⟨a,cap,rfl,-,-⟩:=h.value;rw[<-t];clear r t h P;go_enter func243,ntmps243;go_wp2;go_loopg[5] n (fun g v wr=>Cw w l s g v wr)
  case atStart=>exact z.o
  case round=>
    obtain⟨i,rfl,C,G,I⟩:=hrel;have d:Hid (i+gk=l.length∧(∀j x,j<i->l[j]?=some x->x.1≠s)):=⟨C,G⟩;have m:Hid (TF w wr):=I;clear C G z I;by_cases F:i<n
    ·obtain⟨x,hx⟩:∃x,l[i]?=some x:=⟨_,LB (by have:=b.o.1;omega)⟩;have H:=K.o.turned m.o fun _ _ q=>q
     obtain⟨g,off,R,J,-,-,-,B,-,-⟩:=H.opens (by have:=b.o.1;omega);simp only[Value.slice.injEq]at J;obtain⟨rfl,-,rfl⟩:=J;have Q:wr.cell? ⟨g,off+i*2,none⟩=some (.string x.1):=by rw[B _ (by have:=b.o.1;omega),Nat.mul_comm];exact(ncellsR_get hx).1
     have p:Hid (l[i]?=some x):=hx;have f:Hid (i<n):=F;have N:decide ((i:Int)<(n:Int))=true:=by simp;omega
     have O:decide (i<n)=true:=by simp;omega
     have L:Hid (wrap64 ((i:Int)+1)=((i+1:Nat):Int)):=i7 (by have:=f.o;have:=b.o.2;simp[wrap64];omega);clear hx B H;by_cases c:x.1=s
     ·have k:Hid (x.1=s):=c;have M:=iM c;clear c;go_wp2;rw[A.o];have e:x=(s,x.2):=by rw[<-k.o]
      exact⟨m.o,.inr ⟨i,x.2,by rw[p.o,<-e],uq d.o.2 p.o k.o,rfl⟩⟩
     ·have k:Hid (x.1≠s):=c;have M:=eA c;clear c;go_wp2;go_roundg (gk-1)
      case measure=>have:=d.o;have:=f.o;have:=b.o;omega
      case rel=>exact⟨i+1,by rw[L.o],by have:=d.o;have:=f.o;have:=b.o;omega,fun j y E u=>by
        by_cases q:j=i
        ·subst q;rw[p.o]at u;rw[<-Option.some.inj u];exact k.o
        ·exact d.o.2 j y (by omega) u,m.o⟩
    ·have N:decide ((i:Int)<(n:Int))=false:=by simp;omega
     have O:decide (i<n)=false:=by simp;omega
     have f:Hid (n<=i):=i7 (by omega);clear F;go_wp2;rw[A.o];exact⟨m.o,.inl ⟨xO d.o.2 (by have:=b.o;have:=f.o;omega),rfl⟩⟩
def Cx(w:World)(s:ByteArray)(g:Nat)(a:Value)(wr:World):Prop:=∃i:Nat,a=.int .i64 i∧i+g=s.size∧(∀(j:Nat)c,j<i->s.data.toList[j]?=some c->eu c=false)∧wr=w
def ut(w:World)(s:ByteArray)(e:Ending)(w':World):Prop:=e=.returned (.bool (F6 s))∧w=w'
theorem rz(s:ByteArray)(j:Nat)(h:j<s.size):s.data.toList[j]?=some s[j]:=by rw[Array.getElem?_toList];exact Array.getElem?_eq_getElem h
theorem nI(s:ByteArray)(w:World):CZ 264 #[.string s] w (ut w s):=by
  obtain⟨D,u⟩:=EX (ut w s);have l:Hid (D=ut w s):=u;rw[<-u];have b:=iC s;replace b:Hid (F6 s=_):=b;clear u;by_cases m:s.size<1
  ·have B:decide ((s.size:Int)<1)=true:=LX (by omega);have C:decide (s.size<1)=true:=LX (by omega);have a:Hid (s.size<1):=m;clear m;go_enter func264,ntmps264;go_wp2;rw[l.o];exact⟨by rw[b.o,decide_eq_false (p:=1<=s.size) (by have h:=a.o;omega)];simp,rfl⟩
  by_cases t:32<s.size
  ·have B:decide ((s.size:Int)<1)=false:=LD (by omega);have C:decide (s.size<1)=false:=LD (by omega);have I:decide ((32:Int)<(s.size:Int))=true:=LX (by omega);have J:decide (32<s.size)=true:=LX (by omega);have a:Hid (32<s.size):=t;clear m t;go_enter func264,ntmps264;go_wp2;rw[l.o];exact⟨by rw[b.o,decide_eq_false (p:=s.size<=32) (by have:=a.o;omega)];simp,rfl⟩
  have B:decide ((s.size:Int)<1)=false:=LD (by omega);have C:decide (s.size<1)=false:=LD (by omega);have I:decide ((32:Int)<(s.size:Int))=false:=LD (by omega);have J:decide (32<s.size)=false:=LD (by omega);have a:Hid (1<=s.size∧s.size<=32):=i7 ⟨by omega,by omega⟩;have z:Hid (Cx w s s.size (.int .i64 0) w):=⟨0,rfl,by omega,fun j x f=>absurd f (Nat.not_lt_zero _),rfl⟩;clear m t;go_enter func264,ntmps264;go_wp2;go_loopg[3] s.size (fun g v wr=>Cx w s g v wr)
  case atStart=>exact z.o
  case round=>
    obtain⟨i,rfl,F,G,rfl⟩:=hrel;have k:Hid (i+gk=s.size∧(∀(j:Nat)c,j<i->s.data.toList[j]?=some c->eu c=false)):=⟨F,G⟩;clear F G z;by_cases n:i<s.size
    ·have Q:s[i]?=some s[i]:=ByteArray.getElem?_lt' s i n;have E:=rz s i n;have A:Hid (s.data.toList[i]?=some s[i]):=E;have e:Hid (i<s.size):=n;have L:decide ((i:Int)<(s.size:Int))=true:=LX (by omega);have M:decide (i<s.size)=true:=LX (by omega);have H:Hid (wrap64 ((i:Int)+1)=((i+1:Nat):Int)):=i7 (by have h1:=e.o;have h2:=a.o;simp only[wrap64];omega);clear E;have P:=s[i].toNat_lt;go_wp2
     all_goals first
       |(have r:eu s[i]=true:=by simp only[eu,UInt8.le_iff_toNat_le,Bool.not_eq_true',Bool.and_eq_false_iff,decide_eq_false_iff_not];have N:(33:UInt8).toNat=33:=rfl;have O:(126:UInt8).toNat=126:=rfl;omega
         rw[l.o];exact⟨by rw[b.o];simp only[cR];rw[show(s.data.toList.all fun c=>!eu c)=false from List.all_eq_false.2 ⟨s[i],LI A.o,by rw[r];decide⟩];simp,rfl⟩)
       |(have r:Hid (eu s[i]=false):=i7 (by simp only[eu,UInt8.le_iff_toNat_le,Bool.not_eq_false',Bool.and_eq_true,decide_eq_true_eq];have N:(33:UInt8).toNat=33:=rfl;have O:(126:UInt8).toNat=126:=rfl;omega)
         go_roundg (gk-1)
         case measure=>have:=k.o;have:=e.o;omega
         case rel=>exact⟨i+1,by rw[H.o],by have:=k.o;have:=e.o;omega,fun j d f y=>by
           by_cases q:j=i
           ·subst q;rw[A.o]at y;rw[<-Option.some.inj y];exact r.o
           ·exact k.o.2 j d (by omega) y,rfl⟩)
    ·have L:decide ((i:Int)<(s.size:Int))=false:=LD (by omega);have M:decide (i<s.size)=false:=LD (by omega);have e:Hid (s.size<=i):=i7 (by omega);clear n;go_wp2;rw[l.o];refine⟨?_,rfl⟩;rw[b.o,decide_eq_true a.o.1,decide_eq_true a.o.2];have:cR s.data.toList=true:=by unfold cR;rw[List.all_eq_true];intro c K;obtain⟨j,f⟩:=LM K;have R:=nA s;rw[k.o.2 j c (by have:=(List.getElem?_eq_some_iff.1 f).1;have:=e.o;omega) f];rfl
     rw[this];rfl
end Go.Proofs.YtofcogekgcgjhaaGreatDoor
theorem Go.Mine.d7.drawN{S:Nat->Prop}{a w:Go.World}(h:d7 S a w)(n:Nat):d7 S a (w.drewN n):=⟨h.os,h.tape,h.output,h.size,h.block⟩
namespace Go.Proofs.YtofcogekgcgjhaaGreatDoor
open Go.RowKit Go.Mine Go.Mine.Ac Go.Proofs.Tryz
def wj(w:World)(a b:ByteArray)(g:Nat)(c:Value)(wr:World):Prop:=∃i:Nat,c=.int .i64 i∧i+g=a.size∧i<=L6 a b∧TF w wr
theorem rC(a b:ByteArray):L6 a b<=a.size∧L6 a b<=b.size:=by have:=alikeL_le a.data.toList b.data.toList;simpa[L6]using this
theorem xP(a b:ByteArray)(w:World)(s:a.size<=1000000000)(t:b.size<=1000000000):CZ 147 #[.string a,.string b] w (RT (.int .i64 (L6 a b:Nat)) w):=by
 have E:Hid (a.size<=1000000000∧b.size<=1000000000):=⟨s,t⟩;obtain⟨r,j⟩:=EX (L6 a b);have p:Hid (r=L6 a b):=j;rw[<-j];obtain⟨n,A⟩:=EX a.size;have J:Hid (n=a.size):=A;have k:Hid (wj w a b n (.int .i64 0) w):=⟨0,rfl,by omega,Nat.zero_le _,TQ⟩;clear s t j A;go_enter func147,ntmps147;go_wp2;go_loopg[5] n (fun g v wr=>wj w a b g v wr)
 case atStart=>exact k.o
 case round=>
  obtain⟨i,rfl,u,x,D⟩:=hrel;have d:Hid (i+gk=a.size∧i<=L6 a b):=⟨u,x⟩;have h:Hid (TF w wr):=D;clear u x k D;obtain⟨m,z⟩:∃m:Nat,m=min a.size b.size:=⟨_,rfl⟩;have K:(if b.size<a.size then(b.size:Int)else(a.size:Int))=(m:Int):=by split<;>omega
  by_cases y:i<m
  ·have h1:i<a.size:=by omega
   have h2:i<b.size:=by omega
   have H:decide ((i:Int)<(m:Int))=true:=by simp;omega
   have I:decide (i<m)=true:=by simp;omega
   have l:Hid (i<a.size∧i<b.size):=⟨h1,h2⟩;have B:=rz a i h1;have C:=rz b i h2;have f:Hid (a.data.toList[i]?=some a[i]∧b.data.toList[i]?=some b[i]):=⟨B,C⟩;have F:Hid (wrap64 ((i:Int)+1)=((i+1:Nat):Int)):=i7 (by have:=E.o;simp[wrap64];omega);clear B C z y;by_cases c:a[i]=b[i]
   ·have G:((a[i].toNat:Int)==(b[i].toNat:Int))=true:=by rw[c];simp
    have e:Hid (a[i]=b[i]):=c;clear c;go_wp2;go_quiet (fail);go_wp2;rename_i nq;go_roundg (gk-1)
    case measure=>have:=d.o;have:=l.o;omega
    case rel=>exact⟨i+1,by rw[F.o],by have:=d.o;have:=l.o;omega,jW d.o.2 f.o.1 (by rw[e.o];exact f.o.2),h.o.drawN nq⟩
   ·have G:((a[i].toNat:Int)==(b[i].toNat:Int))=false:=by rw[beq_eq_false_iff_ne];intro q;exact c (UInt8.toNat_inj.1 (by omega))
    have e:Hid (L6 a b=i):=eR d.o.2 (.inr (.inr (by rw[f.o.1,f.o.2];simpa using c)));clear c;go_wp2;go_quiet (fail);go_wp2;rename_i nq;go_ret;exact⟨by rw[p.o,e.o];rfl,h.o.drawN nq⟩
  ·have H:decide ((i:Int)<(m:Int))=false:=by simp;omega
   have I:decide (i<m)=false:=by simp;omega
   have e:Hid (L6 a b=i):=eR d.o.2 (by simp only[Array.length_toList];change a.size<=i∨b.size<=i∨_;omega);clear z y;go_wp2;go_quiet (fail);go_wp2;rename_i nq;go_ret;exact⟨by rw[p.o,e.o];rfl,h.o.drawN nq⟩
def N6(t:List Ent)(i:Nat):Option ByteArray:=if i=0 then none else(t[i-1]?).map (·.1)
def wk(w:World)(t:List Ent)(g:Nat)(a:Value)(wr:World):Prop:=∃i:Nat,a=.int .i64 i∧i+g=t.length∧checkT none t=checkT (N6 t i) (t.drop i)∧TF w wr
def dX(w:World)(t:List Ent)(e:Ending)(w':World):Prop:=e=.returned (.int .i64 (checkT none t:Nat))∧TF w w'
theorem nJ{t:List Ent}{w:World}(h:checkT none t=0):dX w t=(RT (.int .i64 0) w):=by unfold dX;rw[h];rfl
theorem X9{t:List Ent}{i:Nat}{x:Ent}(h:t[i]?=some x):t.drop i=x::t.drop (i+1):=by obtain⟨a,e⟩:=LA.1 h;rw[<-e];exact List.drop_eq_getElem_cons a
theorem rE{o:Option ByteArray}{p:ByteArray}{b:Nat}{l:List Ent}(h:255<p.size):checkT o ((p,b)::l)=5:=by rw[checkT.eq_def];simp[h]
theorem rF{o:Option ByteArray}{p:ByteArray}{b:Nat}{l:List Ent}(h:¬255<p.size)(a:b=0):checkT o ((p,b)::l)=1:=by rw[checkT.eq_def];simp[h,a]
theorem oX{t l:List Ent}{i:Nat}{p:ByteArray}{b:Nat}(c:i=0)(hx:t[i]?=some (p,b))(h:¬255<p.size)(a:b≠0):checkT (N6 t i) ((p,b)::l)=checkT (N6 t (i+1)) l:=by subst c;rw[checkT.eq_def];simp[h,a,N6,hx]
theorem oY{t l:List Ent}{k i:Nat}{p q:ByteArray}{b c:Nat}(e:k+1=i)(f:t[k]?=some (q,c))(h:¬255<p.size)(d:b≠0)(a:p=q):checkT (N6 t i) ((p,b)::l)=11:=by subst e;rw[checkT.eq_def];simp[h,d,N6,f,a];rw[<-a];omega
theorem oZ{t l:List Ent}{k i:Nat}{p q:ByteArray}{b c:Nat}(e:k+1=i)(g:t[k]?=some (q,c))(h:¬255<p.size)(a:b≠0)(d:p≠q)(f:ei p q=true):checkT (N6 t i) ((p,b)::l)=10:=by subst e;rw[checkT.eq_def];simp[h,a,N6,g,d,f]
theorem rG{t l:List Ent}{k i:Nat}{p q:ByteArray}{b c:Nat}(e:k+1=i)(g:t[k]?=some (q,c))(hx:t[i]?=some (p,b))(h:¬255<p.size)(a:b≠0)(d:p≠q)(f:ei p q=false):checkT (N6 t i) ((p,b)::l)=checkT (N6 t (i+1)) l:=by subst e;rw[checkT.eq_def];simp[h,a,N6,g,hx,d,f]
theorem lO{S:Nat->Prop}{a:Option Addr}{cap:Nat}{t:List Ent}(w:World)(h:H1 w S a cap t)(hl:t.length<=1000000000):CZ 144 #[.slice a t.length cap] w (dX w t):=by
 obtain⟨D,E⟩:=EX (dX w t);have u:Hid (D=dX w t):=E;rw[<-E];have B:Hid (H1 w S a cap t):=h;obtain⟨n,G⟩:=EX t.length;have f:Hid (n=t.length∧n<=1000000000):=i7 ⟨G,by omega⟩;have I:Hid (wk w t n (.int .i64 0) w):=⟨0,rfl,by omega,rfl,TQ⟩;rw[<-G];clear h hl G E;go_enter func144,ntmps144;go_wp2;go_loopg[7] n (fun g v wr=>wk w t g v wr)
 case atStart=>exact I.o
 case round=>
  obtain⟨i,rfl,K,M,P⟩:=hrel;have d:Hid (i+gk=t.length∧checkT none t=checkT (N6 t i) (t.drop i)):=⟨K,M⟩;have c:Hid (TF w wr):=P;clear K M I P;by_cases N:i<n
  ·obtain⟨x,hx⟩:∃x,t[i]?=some x:=⟨_,LB (by have:=f.o.1;omega)⟩;obtain⟨g,off,rfl,-,ab,c0,c1⟩:=cT (B.o.turned c.o fun _ _ q=>q) i x hx;have j:Hid (t[i]?=some x):=hx;have HB:Hid (x.2<4294967296):=B.o.2.2.1 x (LI hx);obtain⟨p,b⟩:=x;have l:Hid (i<n):=N;have J:Hid (wrap64 ((i:Int)+1)=((i+1:Nat):Int)):=i7 (by have:=l.o;have:=f.o.2;simp[wrap64];omega);have Z:decide ((i:Int)<(n:Int))=true:=by simp;omega
   have aa:decide (i<n)=true:=by simp;omega
   clear hx;by_cases e:255<p.size
   ·have T:decide ((255:Int)<(p.size:Int))=true:=LX (by omega);have U:decide (255<p.size)=true:=LX (by omega);have m:Hid (255<p.size):=e;clear e;go_wp2;rw[u.o];exact⟨by rw[d.o.2,X9 j.o,rE m.o];rfl,(c.o.new _)⟩
   have T:decide ((255:Int)<(p.size:Int))=false:=LD (by omega);have U:decide (255<p.size)=false:=LD (by omega);have m:Hid (¬255<p.size):=e;clear e;by_cases z:b=0
   ·have V:((b:Int)==0)=true:=by simp[z]
    have r:Hid (b=0):=z;clear z;go_wp2;rw[u.o];exact⟨by rw[d.o.2,X9 j.o,rF m.o r.o];rfl,(c.o.new _)⟩
   have V:((b:Int)==0)=false:=by simp;omega
   have r:Hid (b≠0):=z;clear z;by_cases F:i=0
   ·have W:decide ((0:Int)<(i:Int))=false:=LD (by omega);have X:decide (0<i)=false:=LD (by omega);have R:Hid (i=0):=F;clear F;go_wp2;go_quiet (fail);go_wp2;go_quiet (fail);go_wp2;go_roundg (gk-1)
    case measure=>have:=d.o;have:=l.o;have:=f.o;omega
    case rel=>exact⟨i+1,by rw[J.o],by have:=d.o;have:=l.o;have:=f.o;omega,by rw[d.o.2,X9 j.o];exact oX R.o j.o m.o r.o,by first|exact c.o.new _|exact(c.o.new _).drawN _|exact((c.o.new _).drawN _).drawN _⟩
   obtain⟨k,L⟩:∃k,k+1=i:=⟨i-1,by omega⟩;have W:decide ((0:Int)<(i:Int))=true:=LX (by omega);have X:decide (0<i)=true:=LX (by omega);have e6:wrap64 ((i:Int)-1)=(k:Int):=by have:=f.o;simp[wrap64];omega
   have ac:k<n:=by omega
   obtain⟨y,H⟩:∃y,t[k]?=some y:=⟨_,LB (by have:=f.o.1;omega)⟩;obtain⟨g2,ad,Q,-,-,d0,d1⟩:=cT (B.o.turned c.o fun _ _ q=>q) k y H;simp only[Option.some.injEq,Addr.mk.injEq,and_true]at Q;obtain⟨rfl,rfl⟩:=Q;have s:Hid (k+1=i∧t[k]?=some y):=⟨L,H⟩;obtain⟨q,qb⟩:=y;clear F H L;by_cases e:p=q
   ·have Y:(p.toList==q.toList)=true:=iM e;have A:Hid (p=q):=e;clear e;go_wp2;go_quiet (fail);go_wp2;rw[u.o];exact⟨by rw[d.o.2,X9 j.o,oY s.o.1 s.o.2 m.o r.o A.o];rfl,by first|exact c.o.new _|exact(c.o.new _).drawN _⟩
   have Y:(p.toList==q.toList)=false:=eA e;have A:Hid (p≠q):=e;clear e;cases O:Op.bytesLess p.toList q.toList with
   |true=>have C:Hid (ei p q=true):=O;go_wp2;go_quiet (fail);go_wp2;go_quiet (fail);go_wp2;rw[u.o];exact⟨by rw[d.o.2,X9 j.o,oZ s.o.1 s.o.2 m.o r.o A.o C.o];rfl,by first|exact c.o.new _|exact(c.o.new _).drawN _|exact((c.o.new _).drawN _).drawN _⟩
   |false=>
    have C:Hid (ei p q=false):=O;go_wp2;go_quiet (fail);go_wp2;go_quiet (fail);go_wp2;go_roundg (gk-1)
    case measure=>have:=d.o;have:=l.o;have:=f.o;omega
    case rel=>exact⟨i+1,by rw[J.o],by have:=d.o;have:=l.o;have:=f.o;omega,by rw[d.o.2,X9 j.o];exact rG s.o.1 s.o.2 j.o m.o r.o A.o C.o,by first|exact c.o.new _|exact(c.o.new _).drawN _|exact((c.o.new _).drawN _).drawN _⟩
  ·have Z:decide ((i:Int)<(n:Int))=false:=by simp;omega
   have aa:decide (i<n)=false:=by simp;omega
   have l:Hid (n<=i):=i7 (by omega);clear N;go_wp2;rw[u.o];exact⟨by rw[d.o.2,List.drop_eq_nil_of_le (by have:=f.o;have:=l.o;omega),checkT];rfl,c.o⟩
theorem B6.own{w w':World}{i:Nat->Nat}{r:Nat}{f j e g:Value}{D D':Dk}(h:B6 w i r f j e g D)(c:d7 (· =r) w w')
  (a:X8 w' r #[.int .i64 D'.quota,f,j,e,g,.int .i64 D'.falls,.bool D'.off] 200)
  (m:D'.files=D.files) (o:D'.seen=D.seen) (l:D'.safe=D.safe) (n:D'.pend=D.pend):B6 w' i r f j e g D':=by
 have r1:=h.r1;have d:∀b k,i b=k->1<k->¬b=r:=fun b k a p q=>by rw[q,r1]at a;omega
 exact⟨h.r1,a,by rw[m];exact h.files.turned c fun b a=>d b _ a (by omega),by rw[o];exact h.seen.turned c fun b a=>d b _ a (by omega),by rw[l];exact h.safe.turned c fun b a=>d b _ a (by omega),by rw[n];exact h.pend.turned c fun b a=>d b _ a (by omega),fun b a=>LC (h.bnd b a) c.size⟩
theorem nK{w:World}{f:Nat->Nat}{r:Nat}{c g b d:Value}{D:Dk}(h:B6 w f r c g b d D)(hF:D.falls<=9223372036854775807):
  CZ 169 #[pt r] w fun e w'=>e=.returned (.int .i64 D.step.2)∧B6 w' f r c g b d D.step.1∧d7 (· =r) w w':=by
 have z:=j7 h.blk 5;have A:=j7 h.blk 6;have s:=g9 h.blk 6 _ rfl;have j:=g9 h.blk 5 _ rfl;have B:=i6 h.blk;by_cases a:D.falls=0
 ·have key:Hid (D.step=(D,0)):=i7 (by simp[Dk.step,a]);have l:Hid (B6 w f r c g b d D):=h;rw[a]at j;rw[key.o];clear h a;go_enter func169,ntmps169;go_wp2;go_ret;exact⟨rfl,l.o,TQ⟩
 by_cases h1:D.falls=1
 ·have key:Hid (D.step=({D with falls:=0,off:=true},8)):=i7 (by simp[Dk.step,h1]);have K2:Hid (B6 ((w.setCell ⟨r,5,none⟩ (.int .i64 0)).setCell ⟨r,6,none⟩ (.bool true)) f r c g b d {D with falls:=0,off:=true}∧d7 (· =r) w ((w.setCell ⟨r,5,none⟩ (.int .i64 0)).setCell ⟨r,6,none⟩ (.bool true))):=i7 (by have t:d7 (· =r) w ((w.setCell ⟨r,5,none⟩ (.int .i64 0)).setCell ⟨r,6,none⟩ (.bool true)):=((d7.refl (· =r) w).set (p:=⟨r,5,none⟩) rfl _).set (p:=⟨r,6,none⟩) rfl _;refine⟨h.own t ?_ rfl rfl rfl rfl,t⟩;have i:=j8 h.blk (o:=5) (.int .i64 0);have n:=j8 i (o:=6) (.bool true);simpa[X8]using n);rw[h1]at j;rw[key.o];clear h a h1;go_enter func169,ntmps169;go_wp2;go_ret;exact⟨rfl,K2.o⟩
 ·have key:Hid (D.step=({D with falls:=D.falls-1},0)):=i7 (by simp[Dk.step,a,h1]);obtain⟨m,k⟩:=EX (D.falls-1);have K2:Hid (B6 (w.setCell ⟨r,5,none⟩ (.int .i64 m)) f r c g b d {D with falls:=D.falls-1}∧d7 (· =r) w (w.setCell ⟨r,5,none⟩ (.int .i64 m))):=i7 (by have t:d7 (· =r) w (w.setCell ⟨r,5,none⟩ (.int .i64 m)):=(d7.refl (· =r) w).set (p:=⟨r,5,none⟩) rfl _;refine⟨h.own t ?_ rfl rfl rfl rfl,t⟩;have i:=j8 h.blk (o:=5) (.int .i64 m);rw[<-k];simpa[X8]using i);have u:decide ((0:Int)<(D.falls:Int))=true:=by simp;omega
  have v:decide (0<D.falls)=true:=by simp;omega
  have C:wrap64 ((D.falls:Int)-1)=((m:Nat):Int):=by simp[wrap64];omega
  have x:((m:Int)==0)=false:=by simp;omega
  have y:(m==0)=false:=by simp;omega
  rw[key.o];generalize D.falls=q at *;clear h a h1 k hF;go_enter func169,ntmps169;go_wp2;go_ret;exact⟨rfl,K2.o⟩
def kfileV:Except Nat Nat->Value
 | .error k=>.tuple #[.int .i64 0,.int .i64 k]
 | .ok k=>.tuple #[.int .i64 k,.int .i64 0]
theorem gD{w:World}{E:Nat->Nat}{r:Nat}{A j y C:Value}{D:Dk}(h:B6 w E r A j y C D)(J:D.seen.length<=100000)(name:ByteArray):
  CZ 167 #[pt r,.string name] w (RT (kfileV (D.file name)) w):=by
 have G:=g9 h.blk 2 _ rfl;have z:=g9 h.blk 6 _ rfl;have b:=nH name w h.seen J;obtain⟨R,v⟩:=EX (kfileV (D.file name));have s:Hid (R=kfileV (D.file name)):=v;rw[<-v];have F:Hid (B6 w E r A j y C D):=h;clear v;cases d:D.off with
 |true=>have l:Hid (D.off=true):=d;rw[d]at z;clear d b h;go_enter func167,ntmps167;go_wp2;go_ret2;exact⟨by rw[s.o];simp[Dk.file,l.o,kfileV],TQ⟩
 |false=>
  have l:Hid (D.off=false):=d;rw[d]at z;obtain⟨a,cap,m,-,-⟩:=h.seen.value;clear d;cases c:findN D.seen name with
  |none=>
   have p:Hid (findN D.seen name=none):=c;replace b:CZ 243 #[j,.string name] w (RT (.int .i64 (-1)) w):=b.mono fun e w'⟨t,q⟩=>q.elim (fun q=>⟨q.2,t⟩) fun⟨i,k,_,q,_⟩=>by rw[c]at q;cases q
   clear c h m;go_enter func167,ntmps167;go_wp2_with(go_fit b;rintro e w'⟨rfl,t⟩;have u:Hid (TF w w'):=t;clear t);go_ret2;exact⟨by rw[s.o];simp[Dk.file,l.o,p.o,kfileV],u.o⟩
  |some k=>
   have p:Hid (findN D.seen name=some k):=c;replace b:CZ 243 #[j,.string name] w fun e w'=>(∃i:Nat,D.seen[i]?=some (name,k)∧e=.returned (.int .i64 (i:Nat)))∧TF w w':=b.mono fun e w'⟨t,q⟩=>q.elim (fun q=>by rw[c]at q;cases q.1) fun⟨i,Q,L,q,M⟩=>⟨⟨i,by rw[c]at q;cases q;exact L,M⟩,t⟩
   have key:Hid (∀(i:Nat)(w':World),D.seen[i]?=some (name,k)->TF w w'->i<D.seen.length∧∃g off,a=some ⟨g,off,none⟩∧w'.cell? ⟨g,off+i*2+1,none⟩=some (.int .i64 k)∧w'.cell? ⟨r,2,none⟩=some j):=i7 fun i w' f K=>by
    have I:=(LA.1 f).1;have B:=F.o.turned K fun _ _ q=>q
    obtain⟨g,off,N,x,-,-,-,H,-,-⟩:=B.seen.opens (by omega);rw[m]at x;simp only[Value.slice.injEq]at x;refine⟨I,g,off,x.1,?_,g9 B.blk 2 _ rfl⟩;rw[Nat.add_assoc,H _ (by omega),Nat.mul_comm];exact(ncellsR_get f).2
   rw[m]at G key b;generalize D.seen.length=n at *;clear c h m;go_enter func167,ntmps167;go_wp2_with(go_fit b;rintro e w'⟨⟨i,f,rfl⟩,t⟩;obtain⟨P,g,off,rfl,k1,k2⟩:=key.o i w' f t;have u:Hid (TF w w'):=t;clear t f;have O:decide ((i:Int)<0)=false:=by simp);go_ret2;exact⟨by rw[s.o];simp[Dk.file,l.o,p.o,kfileV],u.o⟩
theorem info242:(prog.info? 242).map (fun i=>(i.zero,i.size,i.bytes))=some (some (.agg #[.string ⟨#[]⟩,.int .i64 0]),2,24):=by kernel_rfl
def kR(c:fC)(l:Nms):Nms:=l.filter fun x=>decide (x.1≠c.gone) && decide (x.1≠c.come)
def Cy(f:World)(l:Nms)(c:fC)(B:Nat)(g:Nat)(e d:Value)(wr:World):Prop:=∃(i:Nat)(a:Nat->Prop),d=.int .i64 i∧i+g=l.length∧Sl wr a 242 2 e (D4 (kR c (l.take i))) (kR c (l.take i)).length∧(∀b,a b->B<b)∧TF f wr
def uu(w:World)(l:Nms)(c:fC)(e:Ending)(w':World):Prop:=∃v,e=.returned v∧Sl w' (fun b=>w.heap.size<=b) 242 2 v (D4 (changed l c)) (changed l c).length∧TF w w'
theorem lP(c:fC){l:Nms}{i:Nat}{x:ByteArray×Nat}(hx:l[i]?=some x):kR c (l.take (i+1))=kR c (l.take i)++if x.1≠c.gone∧x.1≠c.come then [x]else []:=by
 unfold kR;rw[List.take_add_one,hx,List.filter_append];congr 1;by_cases q:x.1≠c.gone∧x.1≠c.come
 ·rw[if_pos q];simp[q.1,q.2]
 ·rw[if_neg q];by_cases b:x.1=c.gone
  ·simp[b]
  ·have a:x.1=c.come:=by
    by_cases a:x.1=c.come
    ·exact a
    ·exact absurd ⟨b,a⟩ q
   simp[a]
theorem wl(c:fC)(l:Nms):(kR c l).length<=l.length:=List.length_filter_le _ _
theorem iN{S:Nat->Prop}{v:Value}{l:Nms}(c:fC)(w:World)(h:Sl w S 242 2 v (D4 l) l.length)(hl:l.length<=100000):
  CZ 165 #[v,.agg #[.string c.gone,.string c.come,.int .i64 c.file]] w (uu w l c):=by
 obtain⟨P,hP⟩:=EX (uu w l c);have HP:Hid (P=uu w l c):=hP;rw[<-hP];obtain⟨n,hn⟩:=EX l.length;have f:Hid (n=l.length∧n<=100000):=i7 ⟨hn,by omega⟩;obtain⟨B,C⟩:=EX w.heap.size;obtain⟨p,K⟩:=EX (w.alloc (.cells #[.string c.gone,.string c.come,.int .i64 c.file] 240));have Y:TF w p:=by rw[K];exact TA
 have ao:p.heap[B]?=some (.cells #[.string c.gone,.string c.come,.int .i64 c.file] 240):=by rw[K,C];exact i8 _ _
 have H:Hid (p.heap[B]?=some (.cells #[.string c.gone,.string c.come,.int .i64 c.file] 240)∧B=w.heap.size∧p.heap.size=B+1):=⟨ao,C,by rw[K,C];simp⟩;have HS:Hid (Sl p S 242 2 v (D4 l) l.length):=h.turned Y fun _ _ q=>q
 have al:Hid (TF w p):=Y;have B0:Hid (Cy p l c B n (.slice none 0 0) (.int .i64 0) p):=⟨0,fun _=>False,rfl,by omega,Sl.nil _ _ _ _,fun _ q=>q.elim,TQ⟩;have BX:Hid (∀W,TF p W->W.cell? ⟨B,0,none⟩=some (.string c.gone)∧W.cell? ⟨B,1,none⟩=some (.string c.come)∧W.cell? ⟨B,2,none⟩=some (.int .i64 c.file)∧B<W.heap.size):=i7 fun W M=>by have:=(M.block _ (i6 H.o.1) id).trans H.o.1;exact⟨g9 this 0 _ rfl,g9 this 1 _ rfl,g9 this 2 _ rfl,i6 this⟩
 obtain⟨a,cap,rfl,-,-⟩:=h.value;obtain⟨R,af⟩:=EX c.gone;obtain⟨d,ac⟩:=EX c.come;obtain⟨F,ae⟩:=EX c.file;have r:Hid (R=c.gone∧d=c.come∧F=c.file):=⟨af,ac,ae⟩;rw[<-hn];rw[<-af,<-ac,<-ae]at K BX ⊢;have aA:w.heap.size=B:=C.symm;have az:=K.symm;clear hP hn h hl C ao Y af ac ae K;go_enter func165,ntmps165;go_wp2
 skip
 clear az aA;go_loopg[5,6] n (fun g ov iv wr=>Cy p l c B g ov iv wr)
 case atStart=>exact B0.o
 case round=>
  obtain⟨i,u,rfl,ap,ag,an,M⟩:=hrel;have k:Hid (i+gk=l.length∧∀b,u b->B<b):=⟨ap,an⟩;have A:Hid (TF p wr):=M;have E:Hid (Sl wr u 242 2 u5 (D4 (kR c (l.take i))) (kR c (l.take i)).length):=ag;obtain⟨aB,aC,aD,aE⟩:=BX.o wr M;obtain⟨a5,am,ar,-,-⟩:=ag.value;obtain⟨m,ab⟩:=EX ((kR c (l.take i)).length);have z:Hid (m=(kR c (l.take i)).length):=ab;rw[<-ab]at ar;subst ar;clear ap an M ag B0 ab;by_cases aq:i<n
  ·obtain⟨x,hx⟩:∃x,l[i]?=some x:=⟨_,LB (by have:=f.o.1;omega)⟩;have au:=HS.o.turned A.o fun _ _ q=>q
   obtain⟨g,off,aF,hv,-,-,-,ad,-,aH⟩:=au.opens (by have:=f.o.1;omega);simp only[Value.slice.injEq]at hv;obtain⟨rfl,-,rfl⟩:=hv;have c0:wr.cell? ⟨g,off+i*2,none⟩=some (.string x.1):=by rw[ad _ (by have:=f.o.1;omega),Nat.mul_comm];exact(ncellsR_get hx).1
   have c1:wr.cell? ⟨g,off+i*2+1,none⟩=some (.int .i64 x.2):=by rw[Nat.add_assoc,ad _ (by have:=f.o.1;omega),Nat.mul_comm];exact(ncellsR_get hx).2
   have V:Hid (l[i]?=some x):=hx;have y:Hid (i<n):=aq;have aw:decide ((i:Int)<(n:Int))=true:=by simp;omega
   have ax:decide (i<n)=true:=by simp;omega
   have U:Hid (wrap64 ((i:Int)+1)=((i+1:Nat):Int)):=i7 (by have:=y.o;have:=f.o.2;simp[wrap64];omega);clear hx ad au;obtain⟨j,ai⟩:=EX x.1;obtain⟨D,aj⟩:=EX x.2;have L:Hid (j=x.1∧D=x.2):=⟨ai,aj⟩;rw[<-ai]at c0;rw[<-aj]at c1;clear ai aj;by_cases s:j=R
   ·have t:Hid (j=R):=s;have T:=iM s;clear s;go_wp2;go_region
    all_goals go_wp2
    go_roundg (gk-1)
    case measure=>have:=k.o.1;have:=y.o;have:=f.o;omega
    case rel=>
     have e:kR c (l.take (i+1))=kR c (l.take i):=by rw[lP c V.o,if_neg,List.append_nil];rw[<-L.o.1,<-r.o.1,<-r.o.2.1];exact fun q=>q.1 t.o
     exact⟨i+1,u,by rw[U.o],by have:=k.o.1;have:=y.o;have:=f.o;omega,by rw[e];first|exact E.o|exact E.o.drew,k.o.2,A.o.draw⟩
   by_cases J:j=d
   ·have t:Hid (j=d):=J;have T:=eA s;have av:=iM J;clear s J;go_wp2;go_region
    all_goals go_wp2
    go_roundg (gk-1)
    case measure=>have:=k.o.1;have:=y.o;have:=f.o;omega
    case rel=>
     have e:kR c (l.take (i+1))=kR c (l.take i):=by rw[lP c V.o,if_neg,List.append_nil];rw[<-L.o.1,<-r.o.1,<-r.o.2.1];exact fun q=>q.2 t.o
     exact⟨i+1,u,by rw[U.o],by have:=k.o.1;have:=y.o;have:=f.o;omega,by rw[e];first|exact E.o|exact E.o.drew,k.o.2,A.o.draw⟩
   ·have t:Hid (j≠R∧j≠d):=⟨s,J⟩;have T:=eA s;have av:=eA J;clear s J;have A1:Hid (Sl (wr.drew.alloc (.cells #[.string j,.int .i64 D] 242)) u 242 2 (.slice a5 m am) (D4 (kR c (l.take i))) m):=i7 (by have:=E.o;rw[<-z.o]at this;exact(this.drew).turned (d7.alloc (fun _=>False) _ _) fun _ _ q=>q);have X:Hid (Src prog 2 197 (.slice (some ⟨wr.heap.size,0,none⟩) 1 1) 1 [.string j,.int .i64 D] (wr.drew.alloc (.cells #[.string j,.int .i64 D] 242))):=i7 (G5 242 underlying197 [.string j,.int .i64 D] (by simp[Value.oneCell']) wr.drew);have N:Hid (m+1<=maxLen∧(m+1)*24<=140737488355328):=i7 (by have h1:=wl c (l.take i);rw[List.length_take,<-z.o]at h1;have h2:=f.o;exact⟨by simp only[maxLen];omega,by omega⟩);go_wp2;go_region;go_wp2_with(at_builtin;refine m7 rfl _ _ 197 197 rfl A1.o underlying197 info242 rfl (by decide) rfl (.slice (some ⟨wr.heap.size,0,none⟩) 1 1) rfl X.o N.o.1 N.o.2 ?_;intro v4 Q G O;obtain⟨Z,aa,ah,-,-⟩:=G.value;subst ah;have S4:Hid (Sl Q _ 242 2 (.slice Z (m+1) aa) _ (m+1)∧d7 u _ Q):=⟨G,O⟩;clear G O);go_roundg (gk-1)
    case measure=>have:=k.o.1;have:=y.o;have:=f.o;omega
    case rel=>
     have e:kR c (l.take (i+1))=kR c (l.take i)++[x]:=by rw[lP c V.o,if_pos];rw[<-L.o.1,<-r.o.1,<-r.o.2.1];exact t.o
     have ay:(wr.drew.alloc (.cells #[.string j,.int .i64 D] 242)).heap.size=wr.heap.size+1:=by simp
     have C:=H.o.2.2;have s:=A.o.size;refine⟨i+1,F2 u (wr.drew.alloc (.cells #[.string j,.int .i64 D] 242)),by rw[U.o],by have:=k.o.1;have:=y.o;have:=f.o;omega,?_,fun b q=>q.elim (k.o.2 b) fun q=>by omega,?_⟩
     ·rw[e,jV,List.length_append,<-z.o];have:D4 [x]=[.string j,.int .i64 D]:=by rw[L.o.1,L.o.2];rfl
      rw[this];exact S4.o.1
     ·exact(A.o.draw.new _).comp S4.o.2 fun i hi q=>q.elim id fun q=>by have:=k.o.2 i q;omega
  ·have aw:decide ((i:Int)<(n:Int))=false:=by simp;omega
   have ax:decide (i<n)=false:=by simp;omega
   have y:Hid (n<=i):=i7 (by omega);have ak:Hid (kR c (l.take i)=kR c l):=i7 (by rw[List.take_of_length_le (by have:=f.o.1;omega)]);clear aq;by_cases I:d=emp
   ·have T:(d.toList==[])=true:=by rw[I,ByteArray.toList_eq];rfl
    have t:Hid (d=emp):=I;clear I;go_wp2;rw[HP.o];have e:changed l c=kR c l:=by unfold changed kR;rw[<-r.o.2.1,if_pos t.o,List.append_nil]
    have C:=H.o.2.1;refine⟨_,rfl,?_,al.o.tr A.o⟩;rw[e,<-ak.o,<-z.o];have:=E.o;rw[<-z.o]at this;exact this.widen fun b q=>by have:=k.o.2 b q;omega
   ·have T:(d.toList==[])=false:=by
     have:d.data.toList≠[]:=fun q=>I (ByteArray.ext (Array.toList_inj.1 (by rw[q];rfl)))
     rw[ByteArray.toList_eq];cases q:d.data.toList with
     |nil=>exact absurd q this
     |cons a l=>rfl
    have t:Hid (d≠emp):=I;clear I;have A1:Hid (Sl (wr.alloc (.cells #[.string d,.int .i64 F] 242)) u 242 2 (.slice a5 m am) (D4 (kR c (l.take i))) m):=i7 (by have:=E.o;rw[<-z.o]at this;exact this.turned (d7.alloc (fun _=>False) _ _) fun _ _ q=>q);have X:Hid (Src prog 2 197 (.slice (some ⟨wr.heap.size,0,none⟩) 1 1) 1 [.string d,.int .i64 F] (wr.alloc (.cells #[.string d,.int .i64 F] 242))):=i7 (G5 242 underlying197 [.string d,.int .i64 F] (by simp[Value.oneCell']) wr);have N:Hid (m+1<=maxLen∧(m+1)*24<=140737488355328):=i7 (by have h1:=wl c (l.take i);rw[List.length_take,<-z.o]at h1;have h2:=f.o;exact⟨by simp only[maxLen];omega,by omega⟩);go_wp2_with(at_builtin;refine m7 rfl _ _ 197 197 rfl A1.o underlying197 info242 rfl (by decide) rfl (.slice (some ⟨wr.heap.size,0,none⟩) 1 1) rfl X.o N.o.1 N.o.2 ?_;intro v4 Q G O;obtain⟨Z,aa,ah,-,-⟩:=G.value;subst ah;have S4:Hid (Sl Q _ 242 2 (.slice Z (m+1) aa) _ (m+1)∧d7 u _ Q):=⟨G,O⟩;clear G O);rw[HP.o];have e:changed l c=kR c l++[(c.come,c.file)]:=by unfold changed kR;rw[<-r.o.2.1,if_neg t.o]
    have C:=H.o.2.1;have aG:=H.o.2.2;have ay:(wr.alloc (.cells #[.string d,.int .i64 F] 242)).heap.size=wr.heap.size+1:=by simp
    have s:=A.o.size;refine⟨_,rfl,?_,((al.o.tr A.o).new _).comp S4.o.2 fun i hi q=>q.elim id fun q=>by have:=k.o.2 i q;omega⟩;rw[e,jV,List.length_append,<-ak.o,<-z.o];have:D4 [(c.come,c.file)]=[.string d,.int .i64 F]:=by rw[r.o.2.1,r.o.2.2];rfl
    rw[this];exact S4.o.1.widen fun b q=>q.elim (fun q=>by have:=k.o.2 b q;omega) fun q=>by omega
end Go.Proofs.YtofcogekgcgjhaaGreatDoor
