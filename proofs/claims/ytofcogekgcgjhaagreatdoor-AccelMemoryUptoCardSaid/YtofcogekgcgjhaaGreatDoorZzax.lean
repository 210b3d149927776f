/- Packed. -/
import Derived.Test.YtofcogekgcgjhaaGreatDoorZzaw
import Derived.Test.YtofcogekgcgjhaaGreatDoorZzat
set_option maxRecDepth 100000
set_option maxHeartbeats 8000000
namespace Go.Proofs.YtofcogekgcgjhaaGreatDoor
open Go.RowKit Go.Mine Go.Mine.Ac Go.Proofs.Tryz
def exV:Except Nat ByteArray->Value
 | .ok b=>.tuple #[.string b,.int .i64 0]
 | .error k=>.tuple #[.string ⟨#[]⟩,.int .i64 k]
def gX(l:List Ent):ByteArray:=(l.getLast?.map (·.1)).getD ⟨#[]⟩
theorem mh{t:List Ent}(h:∀x∈t,x.1.size<=255)(j:Nat):(gX (t.take j)).size<=255:=by
 unfold gX;cases q:(t.take j).getLast? with
 |none=>decide
 |some x=>exact h x (LY (List.mem_of_getLast? q))
theorem ww{a p:ByteArray}{k r:Nat}(b:Nat)(d:k=L6 a p)(f:r+k=p.size):m9 k 1++m9 r 1++(p.extract k p.size).data.toList++m9 b 4=tJ a (p,b):=by
 have e:p.size-L6 a p=r:=by omega
 have c:(p.extract k p.size).data.toList=p.data.toList.drop k:=by rw[toList_extract,List.take_of_length_le];simp only[List.length_drop,Array.length_toList];exact LS _
 unfold tJ;rw[e,c,d]
def CQ(w2:World)(t:List Ent)(g:Nat)(a c:Value)(wr:World):Prop:=∃j:Nat,j+g=t.length∧a=.int .i64 j∧c=.string (gX (t.take j))∧Wr wr (fun b=>w2.heap.size<=b) w2.heap.size (m9 t.length 2++entsB ⟨#[]⟩ (t.take j))∧d7 (fun b=>w2.heap.size<=b) w2 wr
def W0(w:World)(t:List Ent)(e:Ending)(w':World):Prop:=e=.returned (exV (O9 t))∧TF w w'
theorem pj{S:Nat->Prop}{a:Option Addr}{cap:Nat}{t:List Ent}(w:World)(h:H1 w S a cap t)(c:fR t):CZ 67 #[.slice a t.length cap] w (W0 w t):=by
 obtain⟨D,M⟩:=EX (W0 w t);have HD:Hid (D=W0 w t):=M;rw[<-M];have HV:Hid (O9 t=.ok (mP (gL t))):=by
  have:O9 t=.ok (mP (gL t)):=by unfold O9;rw[if_neg (by have:=c.1;omega),if_pos c.2]
  exact this
 have B:=lO w h (by have:=c.1;omega);rw[nJ c.2]at B;have X:Hid (H1 w S a cap t):=h;have HO:Hid (fR t):=c;have J:Hid (∀x∈t,x.1.size<=255∧x.2≠0):=checkT_each t none c.2;obtain⟨n,N⟩:=EX t.length;have d:Hid (n=t.length∧n<=1024):=i7 ⟨N,by have:=c.1;omega⟩;have e1:decide ((1024:Int)<(n:Int))=false:=LD (by have:=c.1;omega);have e2:decide (1024<n)=false:=LD (by have:=c.1;omega);have hm:(n:Int)% 65536=(n:Int):=by have:=c.1;omega
 rw[<-N]at B ⊢;clear h c N M;go_enter func67,ntmps67
 go_wp2_with(first
  |(go_fit B;rintro e w2⟨rfl,ai⟩;have T2:Hid (TF w w2):=ai;have nw:=L9 w2;clear B ai)
  |(go_fit nw;rintro e O⟨rfl,ay,aj,ah⟩;have aq:=wv n O ay (by have:=d.o;omega) (by simp);have Z3:Hid (O.heap.size=w2.heap.size+1∧TF w2 O):=⟨ah,aj⟩;clear nw ay ah aj)
  |(go_fit aq;rintro e H⟨rfl,az,ak⟩;have Z4:Hid (d7 (fun b=>w2.heap.size<=b) w2 H):=(Z3.o.2.mono fun _ _ q=>q.elim).tr ak;have W4:Hid (Wr H (fun b=>w2.heap.size<=b) w2.heap.size (m9 n 2)):=az.widen (fun b q=>q.elim id fun q=>by have:=Z3.o.1;omega);clear aq az ak))
 have Z:Hid (CQ w2 t n (.int .i64 0) (.string ⟨#[]⟩) H):=⟨0,by have:=d.o;omega,rfl,rfl,by rw[<-d.o.1];simpa[entsB]using W4.o,Z4.o⟩;go_loopg[6,26] n (fun g lv iv wr=>CQ w2 t g iv lv wr)
 case atStart=>exact Z.o
 case round=>
  obtain⟨i,af,rfl,rfl,ax,ap⟩:=hrel;have W:Hid (Wr wr (fun b=>w2.heap.size<=b) w2.heap.size (m9 t.length 2++entsB ⟨#[]⟩ (t.take i))):=ax;have L:Hid (d7 (fun b=>w2.heap.size<=b) w2 wr):=ap;have V:Hid (i+gk=t.length):=af;clear ax ap af Z hm;have ad:TF w wr:=T2.o.comp L.o fun i hi q=>q.elim (fun q=>q) fun q=>by have:=T2.o.size;omega
  have T0:Hid (TF w wr):=ad;have aA:Hid (w2.heap.size<=wr.heap.size∧w2.heap.size<wr.heap.size):=⟨L.o.size,(by obtain⟨_,_,_,q,_⟩:=W.o;exact i6 q)⟩;clear ad;by_cases ag:i<n
  ·obtain⟨x,hx⟩:∃x,t[i]?=some x:=⟨_,LB (by have:=d.o.1;omega)⟩;obtain⟨g,off,rfl,-,aG,c0,c1⟩:=cT (X.o.turned T0.o fun _ _ q=>q) i x hx;have HX:Hid (t[i]?=some x):=hx;have hb:=X.o.2.2.1 x (LI hx);have hE:=J.o x (LI hx);have m:Hid (i<n):=ag;have HW:Hid (wrap64 ((i:Int)+1)=((i+1:Nat):Int)):=i7 (by have:=m.o;have:=d.o.2;simp[wrap64];omega);have aD:decide ((i:Int)<(n:Int))=true:=by simp;omega
   have aE:decide (i<n)=true:=by simp;omega
   obtain⟨p,b⟩:=x;obtain⟨f,F⟩:=EX (gX (t.take i));rw[<-F];obtain⟨k,C⟩:=EX (L6 f p);have E:=rC f p;rw[<-C]at E;have aF:p.size<=255:=hE.1;have u:Hid (k<=p.size∧p.size<=255∧b<4294967296):=⟨E.2,aF,hb⟩;have K:Hid (k=L6 f p∧f=gX (t.take i)∧f.size<=255):=⟨C,F,by rw[F];exact mh (fun x hx=>(J.o x hx).1) i⟩;obtain⟨bx,aB⟩:∃bx:World->World,bx=fun W=>W.alloc (.cells #[.string p,.int .u32 (b:Nat)] 96):=⟨_,rfl⟩
   have ae:∀W,CZ 147 #[.string f,.string p] W (RT (.int .i64 k) W):=fun W=>by rw[C];exact xP f p W (by have:=K.o.2.2;omega) (by omega)
   have aI:(k:Int)% 256=(k:Int):=by omega
   obtain⟨r,hr⟩:∃r,r+k=p.size:=⟨p.size-k,by omega⟩;have Y:Hid (r+k=p.size):=hr;have e5:(p.size:Int)-(k:Int)=(r:Int):=by omega
   have aJ:r<=255:=by omega
   have aH:k<=p.size:=E.2;have e6:∀W,(Instr.slice 9 (.string p) (some (.int .i64 k)) none none).run prog W=.ok (.string (p.extract k p.size)) W:=fun W=>by have:=run_slice_string_l (P:=prog) (w:=W) (t:=9) (s:=p) underlying9 .i64 (k:Int) (by omega) (by omega);simpa using this
   clear hx F C E hE hb aB hr;obtain⟨j,y⟩:=EX (wr.alloc (.cells #[.string p,.int .u32 (b:Nat)] 96));have aa:Hid (j=wr.alloc (.cells #[.string p,.int .u32 (b:Nat)] 96)):=y;have v:Hid (∀W,d7 (kW w2.heap.size wr.heap.size) j W->W.cell? ⟨wr.heap.size,0,none⟩=some (.string p)∧W.cell? ⟨wr.heap.size,1,none⟩=some (.int .u32 (b:Nat))∧wr.heap.size<W.heap.size∧w2.heap.size<=W.heap.size):=fun W q=>by rw[y]at q;obtain⟨q1,q2⟩:=yd q;exact⟨g9 q1 0 _ rfl,g9 q1 1 _ rfl,q2,by have:=aA.o.1;omega⟩
   have WV:Hid (Wr j (kW w2.heap.size wr.heap.size) w2.heap.size (m9 t.length 2++entsB ⟨#[]⟩ (t.take i))):=by have:=W.o.box (.cells #[.string p,.int .u32 (b:Nat)] 96);rw[<-y]at this;exact this
   obtain⟨bs,A⟩:=EX (m9 t.length 2++entsB ⟨#[]⟩ (t.take i))
   have l:Hid (bs=m9 t.length 2++entsB ⟨#[]⟩ (t.take i)∧bs.length<=1000000):=i7 ⟨A,by
    rw[A,List.length_append,j6];have:=entsB_len (t.take i) ⟨#[]⟩ fun x hx=>(J.o x (LY hx)).1
    have:=List.length_take_le i t;have:=d.o;omega⟩
   rw[<-A]at WV;clear y A
   go_wp2_with(first
    |(go_fit(ae _);rintro e Q⟨rfl,G⟩;rw[<-aa.o]at G;have ab:Hid (d7 (kW w2.heap.size wr.heap.size) j Q):=d7.none G;obtain⟨a1,a2,a3,a4⟩:=v.o Q ab.o;have hB:=zZ k Q (WV.o.turned G fun _ _ q=>q) a4 a3 (by have:=u.o;omega) (by have:=l.o.2;omega);clear G ae)
    |(go_fit hB;rintro e R⟨rfl,ar,al⟩;have TB:Hid (d7 (kW w2.heap.size wr.heap.size) j R):=ab.o.nox al;obtain⟨b1,b2,b3,b4⟩:=v.o R TB.o;have hC:=zZ r R ar b4 b3 (by have:=u.o;have:=Y.o;omega) (by have:=l.o.2;simp only[List.length_append,j6];omega);clear al ar hB a1 a2 a3 a4)
    |(go_fit hC;rintro e T⟨rfl,au,am⟩;have TC:Hid (d7 (kW w2.heap.size wr.heap.size) j T):=TB.o.nox am;obtain⟨c1,c2,c3,c4⟩:=v.o T TC.o;have hF:=BD (p.extract k p.size) T au c4 c3 (by have:=l.o.2;have:=u.o;simp only[List.length_append,j6,ByteArray.size_extract];omega);clear am au hC b1 b2 b3 b4)
    |(go_fit hF;rintro e U⟨rfl,av,an⟩;have ac:Hid (d7 (kW w2.heap.size wr.heap.size) j U):=TC.o.nox an;obtain⟨f1,f2,f3,f4⟩:=v.o U ac.o;have hG:=BE b U av f4 f3 (by have:=u.o;omega) (by have:=l.o.2;have:=u.o;simp only[List.length_append,j6,toList_extract,List.length_take,List.length_drop];omega);clear an av hF c1 c2 c3 c4)
    |(go_fit hG;rintro e I⟨rfl,aw,ao⟩;have TG:Hid (d7 (kW w2.heap.size wr.heap.size) j I):=ac.o.nox ao;obtain⟨g1,g2,g3,g4⟩:=v.o I TG.o;have WG:Hid (Wr I (kW w2.heap.size wr.heap.size) w2.heap.size (bs++tJ f (p,b))):=i7 (by rw[<-ww b K.o.1 Y.o,<-List.append_assoc,<-List.append_assoc,<-List.append_assoc];exact aw);clear ao hG aw f1 f2 f3 f4))
   go_roundg (gk-1)
   case measure=>have:=V.o;have:=m.o;have:=d.o;omega
   case rel=>
    refine⟨i+1,by have:=V.o;have:=m.o;have:=d.o;omega,by rw[HW.o],?_,?_,?_⟩
    ·rw[List.take_add_one,HX.o];simp[gX]
    ·rw[List.take_add_one,HX.o];show Wr I _ _ (m9 t.length 2++entsB ⟨#[]⟩ (t.take i++[(p,b)]));rw[entsB_app,<-List.append_assoc,<-l.o.1];have e:((t.take i).getLast?.map (·.1)).getD ⟨#[]⟩=f:=K.o.2.1.symm;rw[e];exact WG.o.widen fun b q=>q.1
    ·have z:=TG.o;rw[aa.o]at z;exact(L.o.new _).tr (z.mono fun b _ q=>q.1)
  ·have aD:decide ((i:Int)<(n:Int))=false:=by simp;omega
   have aE:decide (i<n)=false:=by simp;omega
   have aC:=O3 wr W.o;have m:Hid (n<=i):=i7 (by omega);clear ag;go_wp2_with(go_fit aC;rintro e H⟨rfl,rfl⟩);rw[HD.o];refine⟨?_,T0.o⟩;rw[HV.o,List.take_of_length_le (by have:=d.o;have:=m.o;omega)];rfl
theorem rR{S:Nat->Prop}{a:Option Addr}{cap:Nat}{t:List Ent}(w:World)(h:H1 w S a cap t)(j:t.length<=1000000000):CZ 67 #[.slice a t.length cap] w (W0 w t):=by
 by_cases f:fR t
 ·exact pj w h f
 obtain⟨D,c⟩:=EX (W0 w t);have l:Hid (D=W0 w t):=c;rw[<-c];obtain⟨n,b⟩:=EX t.length;by_cases h1:1024<n
 ·have g:Hid (O9 t=.error 5):=i7 (by unfold O9;rw[if_pos (by omega)]);have u:decide ((1024:Int)<(n:Int))=true:=LX (by omega);have v:decide (1024<n)=true:=LX (by omega);rw[<-b];clear h j b c f h1;go_enter func67,ntmps67;go_wp2;rw[l.o];exact⟨by rw[g.o];rfl,TQ⟩
 ·have m:checkT none t≠0:=fun q=>f ⟨by omega,q⟩
  have g:Hid (O9 t=.error (checkT none t)):=i7 (by unfold O9;rw[if_neg (by omega),if_neg m]);have d:=lO w h j;unfold dX at d;have u:decide ((1024:Int)<(n:Int))=false:=LD (by omega);have v:decide (1024<n)=false:=LD (by omega);obtain⟨k,i⟩:=EX (checkT none t);have r:Hid (k=checkT none t):=i;have x:((k:Int)==0)=false:=by simp;omega
  rw[<-b,<-i]at d;rw[<-b];clear h j b c f h1 m i;go_enter func67,ntmps67;go_wp2_with(go_fit d;rintro e w2⟨rfl,p⟩;have s:Hid (TF w w2):=p;clear d p);rw[l.o];exact⟨by rw[g.o,<-r.o];rfl,s.o⟩
def kJ(a:Option Addr)(cap:Nat)(c:Cm):Value:=.agg #[.slice a c.par.length cap,.int .i64 c.tree]
theorem Aa(n:Int)(w:World):CZ 236 #[.int .i64 n] w fun e w'=>e=.returned (.bool (decide (kP n)))∧w=w':=by
 obtain⟨b,c⟩:=EX (decide (kP n));have a:Hid (b=decide (kP n)):=c;rw[<-c];clear c;by_cases h1:0<=n
 ·have d:decide (0<=n)=true:=LX h1;by_cases h2:n<65536
  ·have f:decide (n<65536)=true:=LX h2;obtain rfl:true=b:=by rw[a.o];exact(LX ⟨h1,h2⟩).symm
   go_enter func236,ntmps236;go_wp2;go_ret;exact⟨rfl,rfl⟩
  ·have f:decide (n<65536)=false:=LD h2;obtain rfl:false=b:=by rw[a.o];exact(LD fun q=>h2 q.2).symm
   go_enter func236,ntmps236;go_wp2;go_ret;exact⟨rfl,rfl⟩
 ·have d:decide (0<=n)=false:=LD h1;obtain rfl:false=b:=by rw[a.o];exact(LD fun q=>h1 q.1).symm
  go_enter func236,ntmps236;go_wp2;go_ret;exact⟨rfl,rfl⟩
def CS(b:World)(l:List Int)(g:Nat)(a:Value)(wr:World):Prop:=∃j:Nat,a=.int .i64 j∧j+g=l.length∧checkP [] l=checkP (l.take j) (l.drop j)∧b=wr
def eU(w:World)(c:Cm)(e:Ending)(w':World):Prop:=e=.returned (.int .i64 (D8 c:Nat))∧TF w w'
theorem eD{l:List Int}{i:Nat}{x:Int}(h:l[i]?=some x):l.drop i=x::l.drop (i+1):=by obtain⟨a,e⟩:=LA.1 h;rw[<-e];exact List.drop_eq_getElem_cons a
theorem mi{S:Nat->Prop}{a:Option Addr}{cap:Nat}{c:Cm}(w:World)(h:p7 w S a cap c.par):CZ 156 #[kJ a cap c] w (eU w c):=by
 obtain⟨D,A⟩:=EX (eU w c);have m:Hid (D=eU w c):=A;rw[<-A];obtain⟨par,tree⟩:=c;unfold kJ;dsimp only at h ⊢;have z:Hid (p7 w S a cap par):=h;obtain⟨L,n⟩:=EX par.length;have f:Hid (L=par.length):=n;rw[<-n];clear A h;by_cases h1:16<L
 ·have J:decide ((16:Int)<(L:Int))=true:=LX (by omega);have K:decide (16<L)=true:=LX (by omega);have d:Hid (D8 ⟨par,tree⟩=5):=i7 (by unfold D8;rw[if_pos (by simp only;omega)]);clear h1 n;go_enter func156,ntmps156;go_wp2;rw[m.o];exact⟨by rw[d.o];rfl,TA⟩
 have J:decide ((16:Int)<(L:Int))=false:=LD (by omega);have K:decide (16<L)=false:=LD (by omega);have H:Hid (L<=16):=i7 (by omega);have s:=fun W=>Aa tree W
 by_cases h2:kP tree
 ·rw[decide_eq_true h2]at s;have d:Hid (D8 ⟨par,tree⟩=checkP [] par):=i7 (by unfold D8;rw[if_neg (by simp only;omega),if_neg fun q=>q h2]);have E:Hid (CS (w.alloc (.cells #[.slice a L cap,.int .i64 tree] 55)) par L (.int .i64 0) (w.alloc (.cells #[.slice a L cap,.int .i64 tree] 55))):=⟨0,rfl,by omega,rfl,rfl⟩;clear h1 h2 n;go_enter func156,ntmps156;go_wp2_with(go_fit(s _);rintro e w2⟨rfl,rfl⟩);go_loopg[18] L (fun g O wr=>CS (w.alloc (.cells #[.slice a L cap,.int .i64 tree] 55)) par g O wr)
  case atStart=>exact E.o
  case round=>
   obtain⟨j,rfl,F,G,rfl⟩:=hrel;have k:Hid (j+gk=par.length∧checkP [] par=checkP (par.take j) (par.drop j)):=⟨F,G⟩;clear G F E s;by_cases u:j<L
   ·obtain⟨p,B⟩:∃p,par[j]?=some p:=⟨_,LB (by rw[<-f.o];exact u)⟩;obtain⟨b,off,rfl,Q,R,P⟩:=B8 z.o j p B;have I:Hid (wrap64 ((j:Int)+1)=((j+1:Nat):Int)):=i7 (by have:=H.o;simp[wrap64];omega);have x:Hid (j<L):=u;have C:Hid (par[j]?=some p):=B;have U:∀W,(Instr.slice 41 (.slice (some ⟨b,off,none⟩) L cap) none (some (.int .i64 j)) none).run prog W=.ok (.slice (some ⟨b,off,none⟩) j cap) W:=fun W=>by have:=vZ z.o j (by rw[<-f.o];omega) W;rw[<-f.o]at this;exact this
    have r:CZ 237 #[.slice (some ⟨b,off,none⟩) j cap,.int .i64 p] (w.alloc (.cells #[.slice (some ⟨b,off,none⟩) L cap,.int .i64 tree] 55)) fun e w'=>e=.returned (.bool (decide (p∈par.take j)))∧(w.alloc (.cells #[.slice (some ⟨b,off,none⟩) L cap,.int .i64 tree] 55))=w':=by have:=gQ S (some ⟨b,off,none⟩) cap (par.take j) p _ ((z.o.take j).turned (d7.alloc (fun _=>False) w (.cells #[.slice (some ⟨b,off,none⟩) L cap,.int .i64 tree] 55)) fun _ _ q=>q);rw[List.length_take,Nat.min_eq_left (by rw[<-f.o];omega)]at this;exact this
    have T:b≠w.heap.size:=by omega
    have t:=fun W=>Aa p W
    have M:decide ((j:Int)<(L:Int))=true:=LX (by omega);have N:decide (j<L)=true:=LX u;clear B;by_cases i:kP p
    ·rw[decide_eq_true i]at t;have v:Hid (kP p):=i;by_cases l:p∈par.take j
     ·rw[decide_eq_true l]at r;have y:Hid (p∈par.take j):=l;clear i l
      go_wp2_with(first
       |(go_fit(t _);rintro e w2⟨rfl,rfl⟩)
       |(go_fit r;rintro e w2⟨rfl,rfl⟩))
      rw[m.o];exact⟨by rw[d.o,k.o.2,eD C.o,checkP,if_neg fun q=>q v.o,if_pos y.o];rfl,TA⟩
     ·rw[decide_eq_false l]at r;have y:Hid (p ∉ par.take j):=l;clear i l
      go_wp2_with(first
       |(go_fit(t _);rintro e w2⟨rfl,rfl⟩)
       |(go_fit r;rintro e w2⟨rfl,rfl⟩))
      go_roundg (gk-1)
      case measure=>have:=k.o;have:=f.o;have:=x.o;omega
      case rel=>exact⟨j+1,by rw[I.o],by have:=k.o;have:=f.o;have:=x.o;omega,by rw[k.o.2,eD C.o,checkP,if_neg fun q=>q v.o,if_neg y.o,List.take_add_one,C.o];rfl,rfl⟩
    ·rw[decide_eq_false i]at t;have v:Hid (¬kP p):=i;clear i r;go_wp2_with(go_fit(t _);rintro e w2⟨rfl,rfl⟩);rw[m.o];exact⟨by rw[d.o,k.o.2,eD C.o,checkP,if_pos v.o];rfl,TA⟩
   ·have M:decide ((j:Int)<(L:Int))=false:=LD (by omega);have N:decide (j<L)=false:=LD u;have x:Hid (L<=j):=i7 (by omega);clear u;go_wp2;rw[m.o];exact⟨by rw[d.o,k.o.2,List.drop_eq_nil_of_le (by have:=f.o;have:=x.o;omega),checkP];rfl,TA⟩
 ·rw[decide_eq_false h2]at s;have d:Hid (D8 ⟨par,tree⟩=1):=i7 (by unfold D8;rw[if_neg (by simp only;omega),if_pos h2]);clear h1 h2 n;go_enter func156,ntmps156;go_wp2_with(go_fit(s _);rintro e w2⟨rfl,rfl⟩);rw[m.o];exact⟨by rw[d.o];rfl,TA⟩
structure ye (w:World) (rs:Nat->Nat) (b p:Nat) (dv tv cv:Value) (s:St):Prop where
 box:w.heap[b]?=some (.cells #[pt p] 34)
 st:F4 140 w rs p dv tv cv s
theorem ye.turned{w w':World}{rs:Nat->Nat}{b p:Nat}{c e a:Value}{s:St}(h:ye w rs b p c e a s)(d:TF w w'):ye w' rs b p c e a s:=⟨j9 h.box d id,h.st.turned d fun _ _ q=>q⟩
theorem pk{w:World}{rs:Nat->Nat}{b p:Nat}{f g e:Value}{s:St}(h:ye w rs b p f g e s)(x:Int):CZ 158 #[.int .i64 x,pt b] w (RT (.bool (decide ((s.commits.length:Int)<=x))) w):=by
 obtain⟨k,d,-⟩:=h.st.commits;obtain⟨a,cap,rfl,-,-⟩:=d.value;have i:w.cell? ⟨b,0,none⟩=some (pt p):=g9 h.box 0 _ rfl;have j:w.cell? ⟨p,2,none⟩=some (.slice a s.commits.length cap):=g9 h.st.blk 2 _ rfl;have m:=i6 h.st.blk;have l:=i6 h.box;clear h d;generalize s.commits.length=L at *;by_cases hx:(L:Int)<=x
 ·have c:decide ((L:Int)<=x)=true:=LX hx;rw[c];clear hx;go_enter func158,ntmps158;go_wp2;go_ret;exact⟨rfl,TQ⟩
 ·have c:decide ((L:Int)<=x)=false:=LD hx;rw[c];clear hx;go_enter func158,ntmps158;go_wp2;go_ret;exact⟨rfl,TQ⟩
def dP(l:List Int)(L:Nat):Bool:=l.any fun x=>decide ((L:Int)<=x)
def CU(w:World)(l:List Int)(L:Nat)(g:Nat)(i:Value)(wr:World):Prop:=∃j:Nat,j+g=l.length∧i=.int .i64 j∧(∀(t:Nat)x,t<j->l[t]?=some x->¬(L:Int)<=x)∧TF w wr
def uK(w:World)(l:List Int)(L:Nat)(e:Ending)(w':World):Prop:=TF w w'∧((dP l L=false∧e=.returned (.int .i64 (-1)))∨(dP l L=true∧∃j:Nat,e=.returned (.int .i64 j)))
theorem uL{w:World}{rs:Nat->Nat}{b p:Nat}{Q X P:Value}{s:St}(h:ye w rs b p Q X P s){S:Nat->Prop}{a:Option Addr}{cap:Nat}{l:List Int}(v:p7 w S a cap l):
  CZ 238 #[.slice a l.length cap,.func (.func 158) #[] #[pt b]] w (uK w l s.commits.length):=by
 obtain⟨D,B⟩:=EX (uK w l s.commits.length);have G:Hid (D=uK w l s.commits.length):=B;rw[<-B];have K:Hid (p7 w S a cap l):=v;have M:Hid (∀W,TF w W->∀x,CZ 158 #[.int .i64 x,pt b] W (RT (.bool (decide ((s.commits.length:Int)<=x))) W)):=fun W q x=>pk (h.turned q) x
 obtain⟨L,n⟩:=EX l.length;have u:Hid (L=l.length):=n;rw[<-n];have U:Hid (L<=9223372036854775807):=(by rw[n];have:=v.1;have:=v.2.1;simp only[maxLen]at this;omega:L<=9223372036854775807);have H:Hid (CU w l s.commits.length L (.int .i64 0) w):=⟨0,by rw[n,Nat.zero_add],rfl,fun t d f=>by omega,TQ⟩;generalize s.commits.length=m at *;clear h n v B;go_enter func238,ntmps238;go_wp2;go_loopg[8] L (fun g i wr=>CU w l m g i wr)
 case atStart=>exact H.o
 case round=>
  obtain⟨j,I,rfl,J,f⟩:=hrel;have N:Hid (∀(t:Nat)x,t<j->l[t]?=some x->¬(m:Int)<=x):=J;have T:Hid (TF w wr):=f;have F:Hid (j+gk=l.length):=I;clear J f I H;by_cases V:j<L
  ·obtain⟨x,hx⟩:∃x,l[j]?=some x:=⟨_,LB (by rw[<-u.o];exact V)⟩;obtain⟨b2,off,rfl,-,Z,Y⟩:=B8 (K.o.turned T.o fun _ _ q=>q) j x hx;have O:Hid (wrap64 ((j:Int)+1)=((j+1:Nat):Int)):=i7 (by have:=U.o;simp[wrap64];omega);have C:Hid (l[j]?=some x):=hx;have y:=M.o wr T.o x;clear hx;by_cases k:(m:Int)<=x
   ·rw[decide_eq_true k]at y;have z:Hid ((m:Int)<=x):=k;clear k;go_wp2_with(go_fit y;rintro e w2⟨rfl,r⟩;have A:Hid (TF wr w2):=r;clear r);rw[G.o];refine⟨T.o.tr A.o,.inr ⟨?_,j,rfl⟩⟩;unfold dP;rw[List.any_eq_true];exact⟨x,LI C.o,by simpa using z.o⟩
   ·rw[decide_eq_false k]at y;have z:Hid (¬(m:Int)<=x):=k;clear k;go_wp2_with(go_fit y;rintro e w2⟨rfl,r⟩;have A:Hid (TF wr w2):=r;clear r);go_roundg (gk-1)
    case measure=>have:=F.o;have:=u.o;omega
    case rel=>
     refine⟨j+1,by have:=F.o;have:=u.o;omega,by rw[O.o],fun t e f E=>?_,T.o.tr A.o⟩;rcases Nat.lt_or_eq_of_le (Nat.le_of_lt_succ f)with q|q
     ·have:=N.o t e q E;omega
     ·rw[q,C.o]at E;obtain rfl:=Option.some.inj E;have:=z.o;omega
  ·go_wp2;rw[G.o];refine⟨T.o,.inl ⟨?_,rfl⟩⟩;unfold dP;rw[List.any_eq_false];intro c R;obtain⟨t,f⟩:=LM R;have:=(LA.1 f).1;simpa using N.o t c (by have:=u.o;omega) f
theorem mY{w:World}{rs:Nat->Nat}{b p:Nat}{i k g:Value}{s:St}(h:ye w rs b p i k g s){S:Nat->Prop}{a:Option Addr}{cap:Nat}{l:List Int}(c:p7 w S a cap l):
  CZ 157 #[.slice a l.length cap,.func (.func 158) #[] #[pt b]] w (RT (.bool (dP l s.commits.length)) w):=by
 have c:=uL h c;clear h;generalize d:dP l s.commits.length=r;have B:Hid (dP l s.commits.length=r):=d;clear d;go_enter func157,ntmps157;go_wp2_with fail;refine c.mono ?_;rintro e n⟨f,⟨h1,rfl⟩|⟨h1,j,rfl⟩⟩
 ·rw[B.o]at h1;subst h1;go_wp2;go_ret;exact⟨rfl,f⟩
 ·rw[B.o]at h1;subst h1;have m:decide ((0:Int)<=(j:Int))=true:=by simp
  go_wp2;go_ret;exact⟨rfl,f⟩
theorem rS(s:St)(c:Cm):F9 s c=(decide (c.tree<s.trees.length) && !dP c.par s.commits.length):=by unfold F9 dP;congr 1;rw[Bool.eq_iff_iff];simp only[List.all_eq_true,decide_eq_true_eq,Bool.not_eq_true',List.any_eq_false];exact⟨fun h x hx q=>by have:=h x hx;omega,fun h x hx=>by have:=h x hx;omega⟩
theorem checkP_each:∀(l seen:List Int),checkP seen l=0->∀p∈l,kP p
 | [],_,_,p,a=>by simp at a
 |x::l,seen,h,p,a=>by
  rw[checkP]at h;split at h
  ·omega
  rename_i h1;split at h
  ·omega
  rcases List.mem_cons.1 a with rfl|a
  ·exact Classical.not_not.1 h1
  ·exact checkP_each l _ h p a
theorem jC{c:Cm}(h:D8 c=0):c.par.length<=16∧kP c.tree∧∀p∈c.par,kP p:=by
 unfold D8 at h;split at h
 ·omega
 split at h
 ·omega
 rename_i h1 h2;exact⟨by omega,Classical.not_not.1 h2,checkP_each _ _ h⟩
def eV(l:List Int):List UInt8:=l.flatMap fun p=>m9 p.toNat 4
theorem rT(l:List Int):(eV l).length=4*l.length:=by
 induction l with|nil=>rfl|cons x l a=>rw[show eV (x::l)=m9 x.toNat 4++eV l from rfl,List.length_append,j6,a,List.length_cons];omega
theorem rU(a b:List Int):eV (a++b)=eV a++eV b:=by simp[eV]
def CW(w2:World)(T:Nat)(l:List Int)(g:Nat)(a:Value)(wr:World):Prop:=∃j:Nat,a=.int .i64 j∧j+g=l.length∧Wr wr (fun b=>w2.heap.size<=b) w2.heap.size (m9 T 4++m9 l.length 1++eV (l.take j))∧d7 (fun b=>w2.heap.size<=b) w2 wr
def ds(w:World)(c:Cm)(e:Ending)(w':World):Prop:=e=.returned (exV (U0 c))∧TF w w'
theorem pm{S:Nat->Prop}{a:Option Addr}{cap:Nat}{c:Cm}(w:World)(h:p7 w S a cap c.par)(E:D8 c=0):CZ 70 #[kJ a cap c] w (ds w c):=by
 obtain⟨D,J⟩:=EX (ds w c);have HD:Hid (D=ds w c):=J;rw[<-J];obtain⟨aa,H,P⟩:=jC E;have HV:Hid (U0 c=.ok (mP (gM c))):=i7 (by unfold U0;rw[if_pos E]);have k:=fun W(hW:TF w W)=>mi W (h.turned hW fun _ _ q=>q)
 unfold eU at k;rw[E]at k;obtain⟨par,tree⟩:=c;unfold kJ at k ⊢;dsimp only at h k aa H P ⊢;have HI:Hid (p7 w S a cap par):=h;obtain⟨L,K⟩:=EX par.length;have f:Hid (L=par.length):=K;obtain⟨T,rfl⟩:∃T:Nat,tree=(T:Int):=⟨tree.toNat,by have:=H.1;omega⟩;have l:Hid (T<65536∧L<=16):=⟨by have:=H.2;omega,by omega⟩;have HP:Hid (∀p∈par,kP p):=P;have al:(T:Int)% 4294967296=(T:Int):=by have:=l.o;omega
 have am:(L:Int)% 256=(L:Int):=by have:=l.o;omega
 rw[<-K]at k ⊢;have ai:Hid (∀W,TF w W->CZ 156 #[.agg #[.slice a L cap,.int .i64 (T:Int)]] W (RT (.int .i64 0) W)):=k;obtain⟨n,M⟩:=EX (w.alloc (.cells #[.slice a L cap,.int .i64 (T:Int)] 55));have Y:Hid (n=w.alloc (.cells #[.slice a L cap,.int .i64 (T:Int)] 55)):=M;have B:Hid (∀W,d7 (fun b=>w.heap.size<b) n W->W.cell? ⟨w.heap.size,0,none⟩=some (.slice a L cap)∧W.cell? ⟨w.heap.size,1,none⟩=some (.int .i64 (T:Int))∧w.heap.size<W.heap.size):=fun W q=>by
  rw[M]at q;have hz:(w.alloc (.cells #[.slice a L cap,.int .i64 (T:Int)] 55)).heap.size=w.heap.size+1:=by simp
  have N:=(q.block w.heap.size (by omega) (by omega)).trans (i8 w _);exact⟨g9 N 0 _ rfl,g9 N 1 _ rfl,i6 N⟩
 clear h k aa H P J K E M;go_enter func70,ntmps70
 go_wp2_with(first
  |(go_fit(ai.o _ TA);rintro e w2⟨rfl,G⟩;rw[<-Y.o]at G;have T2:Hid (TF n w2):=G;obtain⟨a1,a2,a3⟩:=B.o w2 G.none;have nw:=L9 w2;clear G)
  |(go_fit nw;rintro e x⟨rfl,ag,Q,ad⟩;have s:Hid (d7 (fun b=>w.heap.size<b) n x∧x.heap.size=w2.heap.size+1∧w.heap.size<w2.heap.size):=⟨(d7.none T2.o).tr (d7.none Q),ad,a3⟩;obtain⟨b1,b2,b3⟩:=B.o x s.o.1;have Z3:Hid (d7 (fun b=>w2.heap.size<=b) w2 x):=d7.none Q;have t:=fS T x ag (by omega) (by have:=l.o;omega) (by simp);clear nw ag ad Q a1 a2 a3)
  |(go_fit t;rintro e d⟨rfl,v,r⟩;have Z4:Hid (d7 (fun b=>w2.heap.size<=b) w2 d):=Z3.o.tr r;have T4:Hid (d7 (fun b=>w.heap.size<b) n d):=s.o.1.trans r (fun _ _ q=>by have:=s.o;omega);obtain⟨c1,c2,c3⟩:=B.o d T4.o;have hB:=wg L d v (by have:=Z4.o.size;omega) (by have:=l.o;omega) (by simp only[List.length_append,j6,List.length_nil];omega);clear t v r b1 b2 b3)
  |(go_fit hB;rintro e y⟨rfl,ah,R⟩;have Z5:Hid (d7 (fun b=>w2.heap.size<=b) w2 y):=Z4.o.tr R;have T5:Hid (d7 (fun b=>w.heap.size<b) n y):=T4.o.trans R (fun _ _ q=>by have:=s.o;omega);obtain⟨f1,f2,f3⟩:=B.o y T5.o;have W5:Hid (Wr y (fun b=>w2.heap.size<=b) w2.heap.size (m9 T 4++m9 L 1)):=ah;clear hB ah R c1 c2 c3))
 have X:Hid (CW w2 T par L (.int .i64 0) y):=⟨0,rfl,by have:=f.o;omega,by rw[<-f.o];simpa[eV]using W5.o,Z5.o⟩;go_loopg[28] L (fun g iv wr=>CW w2 T par g iv wr)
 case atStart=>exact X.o
 case round=>
  obtain⟨j,rfl,ac,af,ae⟩:=hrel;have W:Hid (Wr wr (fun b=>w2.heap.size<=b) w2.heap.size (m9 T 4++m9 par.length 1++eV (par.take j))):=af;have I:Hid (d7 (fun b=>w2.heap.size<=b) w2 wr):=ae;have U:Hid (j+gk=par.length):=ac;have ab:TF w wr:=by have z:=T2.o;rw[Y.o]at z;exact((TA.tr z).comp I.o fun i hi q=>q.elim (fun q=>q) fun q=>by have:=s.o.2.2;omega)
  have Z:Hid (TF w wr):=ab;have aj:Hid (w2.heap.size<=wr.heap.size):=I.o.size;clear ac af ae ab X al am f1 f2 f3;by_cases u:j<L
  ·obtain⟨p,F⟩:∃p,par[j]?=some p:=⟨_,LB (by rw[<-f.o];exact u)⟩;obtain⟨b,off,rfl,-,an,c0⟩:=B8 (HI.o.turned Z.o fun _ _ q=>q) j p F;have O:=HP.o p (LI F);obtain⟨m,rfl⟩:∃m:Nat,p=(m:Int):=⟨p.toNat,by have:=O.1;omega⟩;have V:Hid (m<65536):=i7 (by have:=O.2;omega);have C:Hid (par[j]?=some (m:Int)):=F;have HW:Hid (wrap64 ((j:Int)+1)=((j+1:Nat):Int)):=i7 (by have:=l.o;simp[wrap64];omega);have A:Hid (j<L):=u;have e3:decide ((j:Int)<(L:Int))=true:=LX (by omega);have e4:decide (j<L)=true:=LX u;have ao:(m:Int)% 4294967296=(m:Int):=by have:=V.o;omega
   have t:=fS m wr W.o aj.o (by have:=V.o;omega) (by have:=l.o;have:=f.o;have:=List.length_take_le j par;simp only[List.length_append,j6,rT];omega);clear F O;go_wp2_with(go_fit t;rintro e d⟨rfl,v,r⟩;have W4:Hid (Wr d (fun b=>w2.heap.size<=b) w2.heap.size (m9 T 4++m9 par.length 1++eV (par.take j)++m9 m 4)∧d7 (fun b=>w2.heap.size<=b) w2 d):=⟨v,I.o.tr r⟩;clear t v r);go_roundg (gk-1)
   case measure=>have:=U.o;have:=f.o;have:=A.o;omega
   case rel=>
    refine⟨j+1,by rw[HW.o],by have:=U.o;have:=f.o;have:=A.o;omega,?_,W4.o.2⟩;rw[List.take_add_one,C.o];show Wr d _ _ (m9 T 4++m9 par.length 1++eV (par.take j++[(m:Int)]));rw[rU,<-List.append_assoc];simpa[eV]using W4.o.1
  ·have e3:decide ((j:Int)<(L:Int))=false:=LD (by omega);have e4:decide (j<L)=false:=LD u;have ak:=O3 wr W.o;have A:Hid (L<=j):=i7 (by omega);clear u;go_wp2_with(go_fit ak;rintro e d⟨rfl,rfl⟩);rw[HD.o];refine⟨?_,Z.o⟩;rw[HV.o,List.take_of_length_le (by have:=f.o;have:=A.o;omega)];rfl
theorem rV{S:Nat->Prop}{a:Option Addr}{cap:Nat}{c:Cm}(w:World)(h:p7 w S a cap c.par):CZ 70 #[kJ a cap c] w (ds w c):=by
 by_cases g:D8 c=0
 ·exact pm w h g
 obtain⟨D,d⟩:=EX (ds w c);have n:Hid (D=ds w c):=d;rw[<-d];have r:Hid (U0 c=.error (D8 c)):=i7 (by unfold U0;rw[if_neg g]);have b:=fun W(t:TF w W)=>mi W (h.turned t fun _ _ q=>q)
 unfold eU at b;obtain⟨k,f⟩:=EX (D8 c);have p:Hid (k=D8 c):=f;have u:((k:Int)==0)=false:=by simp;omega
 rw[<-f]at b;unfold kJ at b ⊢;obtain⟨L,i⟩:=EX c.par.length;obtain⟨T,j⟩:=EX c.tree;rw[<-i,<-j]at b ⊢;have m:Hid (∀W,TF w W->CZ 156 #[.agg #[.slice a L cap,.int .i64 T]] W (RT (.int .i64 k) W)):=b;clear h d g f b i j;go_enter func70,ntmps70;go_wp2_with(go_fit(m.o _ TA);rintro e w2⟨rfl,l⟩;have s:Hid (TF w w2):=TA.tr l;clear l);rw[n.o];exact⟨by rw[r.o,<-p.o];rfl,s.o⟩
def gd(w:World)(f:Fr)(e:Ending)(w':World):Prop:=e=.returned (.tuple #[.string (E8 f),.int .i64 0])∧TF w w'
def CX(f:Fr):List UInt8:=m9 f.kind 1++m9 f.body.size 4++f.body.data.toList
theorem mj(f:Fr):E8 f=⟨(CX f++m9 (Crc.sum (p6 ⟨(CX f).toArray⟩)) 4).toArray⟩:=by unfold E8 Cn mP CX p6;simp
theorem rW(f:Fr)(w:World)(h1:1<=f.kind)(h2:f.kind<=255)(h3:f.body.size<=1048576):CZ 152 #[.agg #[.int .i64 f.kind,.string f.body]] w (gd w f):=by
 obtain⟨D,r⟩:=EX (gd w f);have HD:Hid (D=gd w f):=r;rw[<-r];obtain⟨bs,s⟩:=EX (CX f);have A:Hid (bs=CX f):=s;obtain⟨k,body⟩:=f;dsimp only at h1 h2 h3 ⊢;have d:Hid (1<=k∧k<=255∧body.size<=1048576):=⟨h1,h2,h3⟩;have B:Hid (bs.length=body.size+5):=i7 (by rw[s];simp only[CX,List.length_append,j6,Array.length_toList];show 1+4+body.size=_;omega);obtain⟨n,R⟩:=EX body.size;have HN:Hid (n=body.size):=R;have e1:decide ((k:Int)<1)=false:=LD (by omega);have e2:decide (k<1)=false:=LD (by omega);have e3:decide ((255:Int)<(k:Int))=false:=LD (by omega);have e4:decide (255<k)=false:=LD (by omega);have e5:decide ((1048576:Int)<(body.size:Int))=false:=LD (by omega);have e6:decide (1048576<body.size)=false:=LD (by omega);have ae:(k:Int)% 256=(k:Int):=by omega
 have af:(body.size:Int)% 4294967296=(body.size:Int):=by omega
 obtain⟨a,g⟩:=EX (w.alloc (.cells #[.int .i64 (k:Int),.string body] 229));have C:Hid (a=w.alloc (.cells #[.int .i64 (k:Int),.string body] 229)):=g;have m:Hid (a.heap.size=w.heap.size+1):=i7 (by rw[g];simp);have l:Hid (∀W,d7 (fun b=>w.heap.size+1<=b) a W->W.cell? ⟨w.heap.size,0,none⟩=some (.int .i64 (k:Int))∧W.cell? ⟨w.heap.size,1,none⟩=some (.string body)∧w.heap.size<W.heap.size∧w.heap.size+1<=W.heap.size):=fun W q=>by have hz:=m.o;have h:=(q.block w.heap.size (by omega) (by omega)).trans (show a.heap[w.heap.size]?=some (.cells #[.int .i64 (k:Int),.string body] 229)by rw[g];exact i8 w _);exact⟨g9 h 0 _ rfl,g9 h 1 _ rfl,i6 h,by have:=i6 h;omega⟩
 have v:=L9 a;rw[g]at v;clear h1 h2 h3 r s R g;go_enter func152,ntmps152
 go_wp2_with(first
  |(go_fit v;rintro e x⟨rfl,j,u,t⟩;rw[<-C.o]at j u t;rw[m.o]at j t;have F:Hid (d7 (fun b=>(w.heap.size+1)<=b) a x):=d7.none u;obtain⟨a1,a2,a3,J⟩:=l.o x F.o;have M:=wg k x j J (by have:=d.o;omega) (by simp);clear v j t u)
  |(go_fit M;rintro e y⟨rfl,Z,T⟩;have G:Hid (d7 (fun b=>(w.heap.size+1)<=b) a y):=F.o.tr T;obtain⟨b1,b2,b3,K⟩:=l.o y G.o;have N:=fS body.size y Z K (by have:=d.o;omega) (by simp only[List.length_append,j6,List.length_nil];omega);clear M Z T a1 a2 a3 J)
  |(go_fit N;rintro e z⟨rfl,aa,U⟩;have H:Hid (d7 (fun b=>(w.heap.size+1)<=b) a z):=G.o.tr U;obtain⟨c1,c2,c3,L⟩:=l.o z H.o;have O:=oV body z aa L (by have:=d.o;simp only[List.length_append,j6,List.length_nil];omega);clear N aa U b1 b2 b3 K)
  |(go_fit O;rintro e c⟨rfl,ab,V⟩;have I:Hid (d7 (fun b=>(w.heap.size+1)<=b) a c):=H.o.tr V;have E:Hid (Wr c (fun b=>(w.heap.size+1)<=b) (w.heap.size+1) bs):=i7 (by rw[A.o];exact ab);have Q:=O3 c E.o;clear O ab V c1 c2 c3 L)
  |(go_fit Q;rintro e w7⟨rfl,rfl⟩;have S:=kO c.heap.size 0 1 ⟨bs.toArray⟩ (c.alloc (.cells #[.string ⟨bs.toArray⟩] 9)) (g9 (heap_alloc_last c _) 0 _ rfl) (by simp) (by rw[G6];have:=B.o;have:=d.o;omega);clear Q)
  |(go_fit S;rintro e w8⟨rfl,X⟩;have p:Hid (TF c w8):=(d7.alloc (fun _=>False) c _).tr X;have P:=fS (Crc.sum (p6 ⟨bs.toArray⟩)) w8 (E.o.turned p.o fun _ _ q=>q) (by have:=I.o.size;have:=p.o.size;have:=m.o;omega) (O0 _) (by have:=B.o;have:=d.o;omega);clear S X)
  |(go_fit P;rintro e w9⟨rfl,ac,Y⟩;have Z9:Hid (d7 (fun b=>(w.heap.size+1)<=b) a w9):=(I.o.tr (d7.none p.o)).tr Y;have ad:=O3 w9 ac;clear P ac Y)
  |(go_fit ad;rintro e ag⟨rfl,rfl⟩))
 rw[HD.o];refine⟨by rw[mj,<-A.o];rfl,?_⟩;have q:=Z9.o;rw[C.o]at q;exact(d7.alloc (fun _=>False) _ _).comp q fun i hi q=>q.elim id fun q=>by omega
def ge(w:World)(Q1 b:World->Prop)(g:Nat)(a:Value)(wr:World):Prop:=(g=2∧a=.int .i64 0∧w=wr)∨(g=1∧a=.int .i64 1∧Q1 wr)∨(g=0∧a=.int .i64 2∧b wr)
theorem mZ{w:World}{g b b1 f:Nat}(a:w.heap[g]?=some (.cells #[.func (.func 153) #[] #[pt b,pt b1],.func (.func 154) #[] #[pt f]] 137)){d:World->Prop}{k:Nat}(i:k≠0)
  (h1:CZ 153 #[pt b,pt b1] w fun e w'=>e=.returned (.int .i64 k)∧d w'):
  CZ 72 #[.slice (some ⟨g,0,none⟩) 2 2] w fun e w'=>e=.returned (.int .i64 k)∧d w':=by
 have l:w.cell? ⟨g,0,none⟩=some (.func (.func 153) #[] #[pt b,pt b1]):=g9 a 0 _ rfl;have m:w.cell? ⟨g,1,none⟩=some (.func (.func 154) #[] #[pt f]):=g9 a 1 _ rfl;have r:=i6 a;have n:((k:Int)==0)=false:=by simp;omega
 have p:((k:Int) !=0)=true:=by simp;omega
 have h:=i7 h1;have c:Hid (ge w (fun _=>False) (fun _=>False) 2 (.int .i64 0) w):=.inl ⟨rfl,rfl,rfl⟩;clear a h1 i;go_enter func72,ntmps72;go_wp2;go_loopg[8] 2 (fun g j wr=>ge w (fun _=>False) (fun _=>False) g j wr)
 case atStart=>exact c.o
 case round=>
  rcases hrel with⟨rfl,rfl,rfl⟩|⟨rfl,rfl,q⟩|⟨rfl,rfl,q⟩
  ·clear c;go_wp2_with(go_fit h.o;rintro e w'⟨rfl,q⟩;replace q:=i7 q);go_ret;exact⟨rfl,q.o⟩
  ·exact q.elim
  ·exact q.elim
theorem nf{w:World}{g l b1 i:Nat}(c:w.heap[g]?=some (.cells #[.func (.func 153) #[] #[pt l,pt b1],.func (.func 154) #[] #[pt i]] 137)){h Q1:World->Prop}{k:Nat}{T:Nat->Prop}(t:¬T g)
  (h1:CZ 153 #[pt l,pt b1] w fun e w'=>e=.returned (.int .i64 0)∧Q1 w'∧d7 T w w')
  (h2:∀a,Q1 a->d7 T w a->CZ 154 #[pt i] a fun e w'=>e=.returned (.int .i64 k)∧h w'):
  CZ 72 #[.slice (some ⟨g,0,none⟩) 2 2] w fun e w'=>e=.returned (.int .i64 k)∧h w':=by
 have r:w.cell? ⟨g,0,none⟩=some (.func (.func 153) #[] #[pt l,pt b1]):=g9 c 0 _ rfl;have s:w.cell? ⟨g,1,none⟩=some (.func (.func 154) #[] #[pt i]):=g9 c 1 _ rfl;have y:=i6 c;have v:Hid (∀a,d7 T w a->a.cell? ⟨g,1,none⟩=some (.func (.func 154) #[] #[pt i])∧g<a.heap.size):=fun a q=>by have:=j9 c q t;exact⟨g9 this 1 _ rfl,i6 this⟩
 have u:=i7 h1;have n:=i7 h2;obtain⟨R,m⟩:∃R:Ending->World->Prop,R=fun e w'=>e=.returned (.int .i64 k)∧h w':=⟨_,rfl⟩
 have d:Hid (ge w (fun a=>Q1 a∧d7 T w a) (R (.returned (.int .i64 0))) 2 (.int .i64 0) w):=.inl ⟨rfl,rfl,rfl⟩;have p:Hid (R=fun e w'=>e=.returned (.int .i64 k)∧h w'):=m;rw[<-m];clear c h1 h2 m t;go_enter func72,ntmps72;go_wp2;go_loopg[8] 2 (fun g z wr=>ge w (fun a=>Q1 a∧d7 T w a) (R (.returned (.int .i64 0))) g z wr)
 case atStart=>exact d.o
 case round=>
  rcases hrel with⟨rfl,rfl,rfl⟩|⟨rfl,rfl,q⟩|⟨rfl,rfl,q⟩
  ·clear d;go_wp2_with(go_fit u.o;rintro e w'⟨rfl,q⟩;replace q:=i7 q);go_roundg 1
   case measure=>omega
   case rel=>exact .inr (.inl ⟨rfl,rfl,q.o⟩)
  ·have b:Hid (Q1 wr∧d7 T w wr):=q;obtain⟨d1,d2⟩:=v.o wr q.2;clear r s y d q;by_cases j:k=0
   ·have f:=n.o wr b.o.1 b.o.2;have x:Hid (k=0):=j;rw[j]at f;clear j;go_wp2_with(go_fit f;rintro e w'⟨rfl,q⟩;replace q:=i7 q);go_roundg 0
    case measure=>omega
    case rel=>exact .inr (.inr ⟨rfl,rfl,by rw[p.o];exact⟨by rw[x.o];rfl,q.o⟩⟩)
   ·have f:=n.o wr b.o.1 b.o.2;have A:((k:Int)==0)=false:=by simp;omega
    have B:((k:Int) !=0)=true:=by simp;omega
    clear j;go_wp2_with(go_fit f;rintro e w'⟨rfl,q⟩;replace q:=i7 q);rw[p.o];exact⟨rfl,q.o⟩
  ·clear d r s;have b:Hid (R (.returned (.int .i64 0)) wr):=q;clear q;go_wp2;exact b.o
theorem wy(b:ByteArray):∃l:List UInt8,b=⟨l.toArray⟩∧l=b.data.toList∧l.length=b.size:=⟨b.data.toList,by cases b;simp,rfl,by cases b;simp;rfl⟩
def CY(d:World)(t:List Ent)(g:Nat)(c b a:Value)(wr:World):Prop:=∃j:Nat,j+g=t.length∧a=.int .i64 j∧b=.string (gX (t.take j))∧c=.string ⟨(m9 t.length 2++entsB ⟨#[]⟩ (t.take j)).toArray⟩∧TF d wr
theorem ng{S:Nat->Prop}{a:Option Addr}{cap:Nat}{t:List Ent}(w:World)(h:H1 w S a cap t)(d:fR t):CZ 172 #[.slice a t.length cap] w (W0 w t):=by
 obtain⟨D,J⟩:=EX (W0 w t);have HD:Hid (D=W0 w t):=J;rw[<-J];have HV:Hid (O9 t=.ok (mP (gL t))):=i7 (by unfold O9;rw[if_neg (by have:=d.1;omega),if_pos d.2]);have A:=kq w h (by have:=d.1;omega);rw[nJ d.2]at A;have Q:Hid (H1 w S a cap t):=h;have G:Hid (∀x∈t,x.1.size<=255∧x.2≠0):=checkT_each t none d.2;obtain⟨n,K⟩:=EX t.length;have j:Hid (n=t.length∧n<=1024):=i7 ⟨K,by have:=d.1;omega⟩;have e1:decide ((1024:Int)<(n:Int))=false:=LD (by have:=d.1;omega);have e2:decide (1024<n)=false:=LD (by have:=d.1;omega);have hm:IntKind.u64.wrap ((n:Nat):Int)=(n:Int):=by have:=d.1;simp[IntKind.wrap,IntKind.bits,IntKind.signed];omega
 have af:∀W,CZ 245 #[.int .u64 n,.int .i64 2] W (RT (.string ⟨(m9 n 2).toArray⟩) W):=fun W=>p5 n 2 W (by have:=d.1;omega) (by omega)
 rw[<-K]at A ⊢;clear h d K J;go_enter func172,ntmps172
 go_wp2_with(first
  |(go_fit A;rintro e w2⟨rfl,aj⟩;have T2:Hid (TF w w2):=aj;clear A aj)
  |(go_fit(af _);rintro e f⟨rfl,ak⟩;have U:Hid (TF w f):=T2.o.tr ak;clear ak))
 have T:Hid (CY f t n (.string ⟨(m9 n 2).toArray⟩) (.string ⟨#[]⟩) (.int .i64 0) f):=⟨0,by have:=j.o;omega,rfl,rfl,by rw[<-j.o.1];simp[entsB],TQ⟩;clear af hm;go_loopg[5,6,7] n (fun g sv lv iv wr=>CY f t g sv lv iv wr)
 case atStart=>exact T.o
 case round=>
  obtain⟨i,Z,rfl,rfl,rfl,al⟩:=hrel;have I:Hid (TF f wr):=al;have O:Hid (i+gk=t.length):=Z;clear al Z T;by_cases ab:i<n
  ·obtain⟨x,hx⟩:∃x,t[i]?=some x:=⟨_,LB (by have:=j.o.1;omega)⟩;obtain⟨g,off,rfl,-,ar,V,X⟩:=cT (Q.o.turned (U.o.tr I.o) fun _ _ q=>q) i x hx;have HX:Hid (t[i]?=some x):=hx;have hb:=Q.o.2.2.1 x (LI hx);have Y:=G.o x (LI hx);have v:Hid (i<n):=ab;have HW:Hid (wrap64 ((i:Int)+1)=((i+1:Nat):Int)):=i7 (by have:=v.o;have:=j.o.2;simp[wrap64];omega);have ap:decide ((i:Int)<(n:Int))=true:=by simp;omega
   have aq:decide (i<n)=true:=by simp;omega
   obtain⟨p,b⟩:=x;obtain⟨u,C⟩:=EX (gX (t.take i));rw[<-C];obtain⟨k,B⟩:=EX (L6 u p);have aa:=rC u p;rw[<-B]at aa;have ay:p.size<=255:=Y.1;have au:u.size<=255:=by rw[C];exact mh (fun x hx=>(G.o x hx).1) i
   have an:∀W,CZ 246 #[.string u,.string p] W (RT (.int .i64 k) W):=fun W=>by rw[B];exact uA u p W (by omega) (by omega)
   obtain⟨r,hr⟩:∃r,r+k=p.size:=⟨p.size-k,by omega⟩;obtain⟨l,ah,ai,E⟩:=wy (p.extract k p.size);replace E:l.length=r:=by rw[E,ByteArray.size_extract];omega
   have e6:∀W,(Instr.slice 9 (.string p) (some (.int .i64 k)) none none).run prog W=.ok (.string ⟨l.toArray⟩) W:=fun W=>by rw[<-ah];have:=run_slice_string_l (P:=prog) (w:=W) (t:=9) (s:=p) underlying9 .i64 (k:Int) (by omega) (by omega);simpa using this
   have aD:(⟨l.toArray⟩:ByteArray).size=r:=by rw[G6];exact E
   obtain⟨bs,z⟩:=EX (m9 n 2++entsB ⟨#[]⟩ (t.take i));have ao:bs.length<=1000000:=by
    rw[z,List.length_append,j6];have:=entsB_len (t.take i) ⟨#[]⟩ fun x hx=>(G.o x (LY hx)).1
    have:=List.length_take_le i t;have:=j.o;omega
   rw[<-j.o.1,<-z];have ac:IntKind.u64.wrap ((k:Nat):Int)=(k:Int):=by simp[IntKind.wrap,IntKind.bits,IntKind.signed];omega
   have ad:IntKind.u64.wrap ((r:Nat):Int)=(r:Int):=by simp[IntKind.wrap,IntKind.bits,IntKind.signed];omega
   have ae:IntKind.u64.wrap ((b:Nat):Int)=(b:Int):=by simp[IntKind.wrap,IntKind.bits,IntKind.signed];omega
   have av:∀W,CZ 245 #[.int .u64 (IntKind.u64.wrap (k:Nat)),.int .i64 1] W (RT (.string ⟨(m9 k 1).toArray⟩) W):=fun W=>by rw[ac];exact p5 k 1 W (by omega) (by omega)
   have aw:∀W,CZ 245 #[.int .u64 (IntKind.u64.wrap (r:Nat)),.int .i64 1] W (RT (.string ⟨(m9 r 1).toArray⟩) W):=fun W=>by rw[ad];exact p5 r 1 W (by omega) (by omega)
   have ax:∀W,CZ 245 #[.int .u64 (IntKind.u64.wrap (b:Nat)),.int .i64 4] W (RT (.string ⟨(m9 b 4).toArray⟩) W):=fun W=>by rw[ae];exact p5 b 4 W (by omega) (by omega)
   have az:=I6 bs (m9 k 1) (by rw[j6];omega);have aA:=I6 (bs++m9 k 1) (m9 r 1) (by rw[List.length_append,j6,j6];omega);have aB:=I6 (bs++m9 k 1++m9 r 1) l (by rw[List.length_append,List.length_append,j6,j6];omega);have aC:=I6 (bs++m9 k 1++m9 r 1++l) (m9 b 4) (by simp only[List.length_append,j6];omega)
   have N:Hid (bs++m9 k 1++m9 r 1++l++m9 b 4=m9 n 2++entsB ⟨#[]⟩ (t.take (i+1))∧gX (t.take (i+1))=p):=i7 (by
    constructor
    ·rw[List.take_add_one,hx];show _=m9 n 2++entsB ⟨#[]⟩ (t.take i++[(p,b)]);rw[entsB_app,<-List.append_assoc,<-z,ai];have e:((t.take i).getLast?.map (·.1)).getD ⟨#[]⟩=u:=C.symm;rw[e,<-ww b B hr];simp only[List.append_assoc]
    ·rw[List.take_add_one,hx];simp[gX])
   have F:Hid (∀f,TF wr f->f.cell? ⟨g,off+i*2,none⟩=some (.string p)∧f.cell? ⟨g,off+i*2+1,none⟩=some (.int .u32 b)∧g<f.heap.size):=i7 fun f M=>⟨m6 V M id,m6 X M id,LC ar M.size⟩
   clear hx C B aa Y hb hr ah ai E ay au z ao ac ad ae;generalize(⟨l.toArray⟩:ByteArray)=R at *;generalize(⟨bs.toArray⟩:ByteArray)=q0 at *;generalize(⟨(bs++m9 k 1).toArray⟩:ByteArray)=q1 at *;generalize(⟨(bs++m9 k 1++m9 r 1).toArray⟩:ByteArray)=q2 at *;generalize(⟨(bs++m9 k 1++m9 r 1++l).toArray⟩:ByteArray)=q3 at *;generalize ag:(⟨(bs++m9 k 1++m9 r 1++l++m9 b 4).toArray⟩:ByteArray)=q4 at *;have am:Hid ((⟨(bs++m9 k 1++m9 r 1++l++m9 b 4).toArray⟩:ByteArray)=q4):=ag;clear ag;generalize(⟨(m9 k 1).toArray⟩:ByteArray)=n1 at *;generalize(⟨(m9 r 1).toArray⟩:ByteArray)=n2 at *;generalize(⟨(m9 b 4).toArray⟩:ByteArray)=n3 at *;go_wp2_with(go_fit(an _);rintro e y⟨rfl,L⟩;obtain⟨a0,a1,a2⟩:=F.o y L);have H:Hid (TF wr y):=L;have KS:Hid (∀W,TF y W->W.cell? ⟨g,off+i*2+1,none⟩=some (.int .u32 b)):=i7 fun W tt=>(F.o W (H.o.tr tt)).2.1
   have c:Hid (TF y y.drew):=i7 TD;clear L V X
   go_region_held3 (fun W=>W.cell? ⟨g,off+i*2+1,none⟩=some (.int .u32 b))
    (first|(exact KS.o _ c.o)|go_keep)
    (first
     |(go_fit(av _);rintro e wB⟨rfl,m⟩;have Q1:=c.o.tr m;clear c m;have c:=i7 Q1;clear Q1)
     |(go_fit(aw _);rintro e wC⟨rfl,m⟩;have Q1:=c.o.tr m;clear c m;have c:=i7 Q1;clear Q1)
     |(go_fit(ax _);rintro e wD⟨rfl,m⟩;have Q1:=c.o.tr m;clear c m;have c:=i7 Q1;clear Q1))
   obtain⟨a3,a4,a5⟩:=F.o _ (H.o.tr c.o);go_wp2;go_roundg (gk-1)
   case measure=>have:=O.o;have:=v.o;have:=j.o;omega
   case rel=>exact⟨i+1,by have:=O.o;have:=v.o;have:=j.o;omega,by rw[HW.o],by rw[N.o.2],by rw[<-am.o,N.o.1,j.o.1],(I.o.tr H.o).tr c.o⟩
  ·have ap:decide ((i:Int)<(n:Int))=false:=by simp;omega
   have aq:decide (i<n)=false:=by simp;omega
   have v:Hid (n<=i):=i7 (by omega);clear ab;go_wp2;rw[HD.o];refine⟨?_,U.o.tr I.o⟩;rw[HV.o,List.take_of_length_le (by have:=j.o;have:=v.o;omega)];rfl
theorem pn{S:Nat->Prop}{a:Option Addr}{cap:Nat}{t:List Ent}(w:World)(h:H1 w S a cap t)(j:t.length<=1000000000):CZ 172 #[.slice a t.length cap] w (W0 w t):=by
 by_cases f:fR t
 ·exact ng w h f
 obtain⟨D,c⟩:=EX (W0 w t);have l:Hid (D=W0 w t):=c;rw[<-c];obtain⟨n,b⟩:=EX t.length;by_cases h1:1024<n
 ·have g:Hid (O9 t=.error 5):=i7 (by unfold O9;rw[if_pos (by omega)]);have u:decide ((1024:Int)<(n:Int))=true:=LX (by omega);have v:decide (1024<n)=true:=LX (by omega);rw[<-b];clear h j b c f h1;go_enter func172,ntmps172;go_wp2;rw[l.o];exact⟨by rw[g.o];rfl,TQ⟩
 ·have m:checkT none t≠0:=fun q=>f ⟨by omega,q⟩
  have g:Hid (O9 t=.error (checkT none t)):=i7 (by unfold O9;rw[if_neg (by omega),if_neg m]);have d:=kq w h j;unfold dX at d;have u:decide ((1024:Int)<(n:Int))=false:=LD (by omega);have v:decide (1024<n)=false:=LD (by omega);obtain⟨k,i⟩:=EX (checkT none t);have r:Hid (k=checkT none t):=i;have x:((k:Int)==0)=false:=by simp;omega
  rw[<-b,<-i]at d;rw[<-b];clear h j b c f h1 m i;go_enter func172,ntmps172;go_wp2_with(go_fit d;rintro e w2⟨rfl,p⟩;have s:Hid (TF w w2):=p;clear d p);rw[l.o];exact⟨by rw[g.o,<-r.o];rfl,s.o⟩
end Go.Proofs.YtofcogekgcgjhaaGreatDoor
