/- Packed. -/
import Derived.Deep.CutRange
import Derived.Deep.CutBlock
import Derived.Test.YtofcogekgcgjhaaGreatDoorZzao
import Derived.Test.YtofcogekgcgjhaaGreatDoorZzaq
set_option maxRecDepth 100000
set_option maxHeartbeats 8000000
namespace Go.Proofs.YtofcogekgcgjhaaGreatDoor
open Go.RowKit Go.Mine Go.Proofs.Tryz
def U1{α:Type}(f:Nat->α)(i:Nat)(x:α):Nat->α:=fun j=>if j=i then x else f j
theorem N7{α:Type}(f:Nat->α)(i:Nat)(x:α):U1 f i x i=x:=by simp[U1]
theorem db{α:Type}(f:Nat->α)(i:Nat)(x:α)(j:Nat)(h:j≠i):U1 f i x j=f j:=by simp[U1,h]
def cX(w:World)(K:Nat->Prop)(n:Nat)(p:Nat->Nat)(f:Nat->List UInt8):Prop:=∃own:Nat->Nat,(∀b,K b->n<=own b∧b<w.heap.size)∧∀i,i<n->Wr w (fun b=>own b=i∧b<w.heap.size) (p i) (f i)
theorem cX.none(w:World)(K:Nat->Prop)(a:∀b,K b->b<w.heap.size)(p:Nat->Nat)(f:Nat->List UInt8):cX w K 0 p f:=⟨fun _=>0,fun b q=>⟨Nat.zero_le _,a b q⟩,fun i q=>by omega⟩
theorem cX.step{w:World}{K:Nat->Prop}{n:Nat}{p:Nat->Nat}{f:Nat->List UInt8}(h:cX w K n p f)(i:Nat)(s:i<n):
  ∃S:Nat->Prop,Wr w S (p i) (f i)∧(∀b,S b->¬K b)∧∀w' c,Wr w' (F2 S w) (p i) c->d7 S w w'->cX w' K n p (U1 f i c)∧d7 (fun b=>¬K b) w w':=by
 obtain⟨own,e,o⟩:=h;have g:∀b,own b=i∧b<w.heap.size->¬K b:=fun b q k=>by have:=(e b k).1;omega
 refine⟨fun b=>own b=i∧b<w.heap.size,o i s,g,fun w' c h1 a=>⟨⟨fun b=>if b<w.heap.size then own b else i,fun b k=>?_,fun j t=>?_⟩,a.mono fun b _ q=>g b q⟩⟩
 ·have l:=e b k;have:=a.size;simp only[if_pos l.2];exact⟨l.1,by omega⟩
 ·by_cases d:j=i
  ·subst d;rw[N7];refine(fT h1).widen fun b⟨q,r⟩=>⟨?_,r⟩
   by_cases m:b<w.heap.size
   ·simp only[if_pos m];rcases q with q|q
    ·exact q.1
    ·omega
   ·simp only[if_neg m]
  ·rw[db _ _ _ _ d];refine((o j t).turned a fun b q z=>d (q.1.symm.trans z.1)).widen fun b q=>?_
   have:=a.size;simp only[if_pos q.2];exact⟨q.1,by omega⟩
theorem cX.turned{w w':World}{K:Nat->Prop}{n:Nat}{p:Nat->Nat}{f:Nat->List UInt8}(h:cX w K n p f)(a:d7 (fun b=>K b) w w'):
  cX w' (fun b=>K b∨(w.heap.size<=b∧b<w'.heap.size)) n p f:=by
 obtain⟨own,c,g⟩:=h;refine⟨fun b=>if b<w.heap.size then own b else n,fun b k=>?_,fun j e=>?_⟩
 ·rcases k with k|k
  ·have d:=c b k;have:=a.size;simp only[if_pos d.2];exact⟨d.1,by omega⟩
  ·simp only[if_neg (show¬b<w.heap.size by omega)];exact⟨LS _,k.2⟩
 ·refine((g j e).turned a fun b q z=>by have:=(c b z).1;omega).widen fun b q=>?_
  have:=a.size;simp only[if_pos q.2];exact⟨q.1,by omega⟩
theorem cX.mono{w:World}{K a:Nat->Prop}{n:Nat}{p:Nat->Nat}{f:Nat->List UInt8}(h:cX w K n p f)(c:∀b,a b->K b):cX w a n p f:=by obtain⟨own,h1,h2⟩:=h;exact⟨own,fun b q=>h1 b (c b q),h2⟩
theorem cX.congr{w:World}{K:Nat->Prop}{n:Nat}{p c:Nat->Nat}{f b:Nat->List UInt8}(h:cX w K n p f)(e:∀i,i<n->c i=p i)(d:∀i,i<n->b i=f i):cX w K n c b:=by obtain⟨own,h1,h2⟩:=h;exact⟨own,h1,fun i a=>by rw[e i a,d i a];exact h2 i a⟩
theorem U9{w:World}{K:Nat->Prop}{n:Nat}{p:Nat->Nat}{f:Nat->List UInt8}(h:cX w K n p f):
  CZ 145 #[] w fun e w'=>e=.returned (pt w.heap.size)∧cX w' K (n+1) (U1 p n w.heap.size) (U1 f n [])∧TF w w':=by
 refine(L9 w).mono fun e w'⟨i,l,c,s⟩=>⟨i,?_,c⟩
 obtain⟨own,d,m⟩:=h;refine⟨fun b=>if b=w.heap.size then n else if own b<n then own b else n+1,fun b k=>?_,fun j o=>?_⟩
 ·have r:=d b k;simp only[if_neg (show¬b=w.heap.size by omega),if_neg (show¬own b<n by omega)];exact⟨LS _,by omega⟩
 ·by_cases a:j=n
  ·subst a;rw[N7,N7];refine(fT l).widen fun b⟨q,g⟩=>⟨?_,g⟩
   simp only[if_pos (show b=w.heap.size by omega)]
  ·rw[db _ _ _ _ a,db _ _ _ _ a];refine((m j (by omega)).turned c fun b _ z=>z).widen fun b q=>?_
   simp only[if_neg (show¬b=w.heap.size by omega),if_pos (show own b<n by omega)];exact⟨q.1,by omega⟩
theorem wv{S:Nat->Prop}{p:Nat}{bs:List UInt8}(v:Nat)(w:World)(h:Wr w S p bs)(d:v<65536)(a:bs.length+2<=1099511627776):
  CZ 146 #[pt p,.int .u16 v] w fun e w'=>e=.returned (.tuple #[])∧Wr w' (F2 S w) p (bs++m9 v 2)∧d7 S w w':=by
 have b:CZ 234 #[pt p,.int .u64 v,.int .i64 2] w fun e w'=>e=.returned (.tuple #[])∧Wr w' (F2 S w) p (bs++m9 v 2)∧d7 S w w':=jo v 2 w h (by omega) (by omega) a
 have g:((v:Int)% 18446744073709551616)=v:=by omega
 clear h d a;go_enter func146,ntmps146;go_wp2_with(go_fit b;rintro e w2⟨rfl,f,c⟩);go_end0;exact⟨rfl,f,c⟩
theorem BA{S:Nat->Prop}{p:Nat}{bs:List UInt8}(w:World)(h:Wr w S p bs):
  CZ 221 #[pt p] w fun e w'=>e=.returned (.int .i64 bs.length)∧w=w':=by
 obtain⟨f,v,R,b,c,g,d⟩:=h;have i:=g9 b 0 _ rfl;have j:=i6 b;obtain⟨a,cap,rfl,h1,h2⟩:=c.value;clear f g d b c h1 h2;go_enter func221,ntmps221;go_wp2;go_ret;exact⟨rfl,rfl⟩
section
variable {w:World} {K:Nat->Prop} {n:Nat} {p:Nat->Nat} {f:Nat->List UInt8}
theorem CI(h:cX w K n p f)(i v:Nat)(d:i<n)(j:v<256)(a:(f i).length+1<=1099511627776):
  CZ 148 #[pt (p i),.int .u8 v] w fun e w'=>e=.returned (.tuple #[])∧cX w' K n p (U1 f i (f i++m9 v 1))∧d7 (fun b=>¬K b) w w':=by
 obtain⟨S,h1,h2,h3⟩:=h.step i d;exact(tM v w h1 j a).mono fun e w'⟨c,k,g⟩=>⟨c,h3 w' _ k g⟩
theorem zX(h:cX w K n p f)(i v:Nat)(d:i<n)(j:v<65536)(a:(f i).length+2<=1099511627776):
  CZ 146 #[pt (p i),.int .u16 v] w fun e w'=>e=.returned (.tuple #[])∧cX w' K n p (U1 f i (f i++m9 v 2))∧d7 (fun b=>¬K b) w w':=by
 obtain⟨S,h1,h2,h3⟩:=h.step i d;exact(wv v w h1 j a).mono fun e w'⟨c,k,g⟩=>⟨c,h3 w' _ k g⟩
theorem uF(h:cX w K n p f)(i v:Nat)(d:i<n)(j:v<4294967296)(a:(f i).length+4<=1099511627776):
  CZ 150 #[pt (p i),.int .u32 v] w fun e w'=>e=.returned (.tuple #[])∧cX w' K n p (U1 f i (f i++m9 v 4))∧d7 (fun b=>¬K b) w w':=by
 obtain⟨S,h1,h2,h3⟩:=h.step i d;exact(gz v w h1 j a).mono fun e w'⟨c,k,g⟩=>⟨c,h3 w' _ k g⟩
theorem DV(h:cX w K n p f)(i:Nat)(s:ByteArray)(d:i<n)(a:(f i).length+s.size<=1099511627776):
  CZ 149 #[pt (p i),.string s] w fun e w'=>e=.returned (.tuple #[])∧cX w' K n p (U1 f i (f i++s.data.toList))∧d7 (fun b=>¬K b) w w':=by
 obtain⟨S,h1,h2,h3⟩:=h.step i d;exact(ow s w h1 a).mono fun e w'⟨c,j,g⟩=>⟨c,h3 w' _ j g⟩
theorem uG(h:cX w K n p f)(i:Nat)(a:i<n):CZ 221 #[pt (p i)] w fun e w'=>e=.returned (.int .i64 ((f i).length:Nat))∧w=w':=by obtain⟨S,h1,-,-⟩:=h.step i a;exact BA w h1
theorem fW(h:cX w K n p f)(i:Nat)(a:i<n):CZ 151 #[pt (p i)] w fun e w'=>e=.returned (.string ⟨(f i).toArray⟩)∧w=w':=by obtain⟨S,h1,-,-⟩:=h.step i a;exact O3 w h1
end
end Go.Proofs.YtofcogekgcgjhaaGreatDoor
namespace Go.Proofs.YtofcogekgcgjhaaGreatDoor
open Go.RowKit Go.Mine Go.Proofs.Tryz
def I7(r:Rw):Nat:=match r.par with
 | []=>4294967295
 |p::_=>p.toNat
def E6(r:Rw)(e:Nat):Nat:=if 2<r.par.length then 2147483648+e / 4 else if r.par.length=2 then(r.par[1]?.getD 0).toNat else 4294967295
def gI(l:List Int):List UInt8:=l.flatMap fun p=>m9 p.toNat 4
def L8(r:Rw):List UInt8:=if 2<r.par.length then gI ((r.par.drop 1).take (r.par.length-2))++m9 ((r.par[r.par.length-1]?.getD 0).toNat+2147483648) 4 else []
def kI(r:Rw)(e:Nat):List UInt8:=m9 r.tree.toNat 4++m9 (I7 r) 4++m9 (E6 r e) 4++m9 r.gen.toNat 2++m9 r.state.toNat 1
theorem ku(r:Rw)(e:Nat):(kI r e).length=15:=by simp[kI,j6]
theorem fX(l:List Int):(gI l).length=4*l.length:=by
 induction l with|nil=>rfl|cons x l a=>simp only[gI,List.flatMap_cons,List.length_append,j6,List.length_cons]at a ⊢;omega
theorem nT(l:List Int)(j:Nat)(x:Int)(h:l[j]?=some x):gI (l.take (j+1))=gI (l.take j)++m9 x.toNat 4:=by rw[List.take_add_one,h];simp[gI]
theorem iU(r:Rw):(L8 r).length<=4*r.par.length:=by
 unfold L8;split
 ·simp only[List.length_append,fX,j6,List.length_take,List.length_drop];omega
 ·simp
theorem fY{s:Int}{b:ByteArray}(h:fq s b=true):0<=s∧s<=2∧b.size<=4096:=by
 unfold fq at h;split at h
 ·simp only[decide_eq_true_eq]at h;omega
 ·split at h
  ·simp only[decide_eq_true_eq]at h;omega
  ·simp at h
theorem zY(S:Nat->Prop)(a:Option Addr)(cap:Nat)(l:List Int)(z:2<l.length)(w:World)(h:p7 w S a cap l):
  ∃c d,(∀W,(Instr.slice 41 (.slice a l.length cap) (some (.int .i64 1)) (some (.int .i64 ((l.length-1:Nat):Int))) none).run prog W=.ok (.slice c (l.length-2) d) W)∧∀W,p7 W S a cap l->p7 W S c d ((l.drop 1).take (l.length-2)):=by
 obtain⟨i,p,C,s,D⟩:=info_parts info3i;obtain⟨h1,h2,h3,h4⟩:=h;obtain⟨g,off,rfl,-,-,-⟩:=h4 (by omega);have y:l.length-1<=cap:=by omega
 have B:1<=l.length-1:=by omega
 have r:¬cap=1:=by omega
 refine⟨some ⟨g,off+1,none⟩,cap-1,fun W=>?_,fun W n=>?_⟩
 ·have e:l.length-1-1=l.length-2:=by omega
  have f:l.length<=cap+1:=by omega
  have k:(1:Int)<=((l.length-1:Nat):Int):=by omega
  simp[Instr.slice,Instr.sliceBounds,Instr.sliceBound,asIntOf,run_underlying underlying41,sizeOf,typeInfo,p,s,r,Result.andThen,Addr.add,e,f,k]
 ·obtain⟨-,-,-,k4⟩:=n;obtain⟨v,E,b,m,q,o⟩:=k4 (by omega);injection b with b;injection b with t u;subst t;subst u;have A:((l.drop 1).take (l.length-2)).length=l.length-2:=by simp;omega
  refine⟨by omega,by omega,fun x hx=>h3 x (List.mem_of_mem_drop (LY hx)),fun _=>⟨g,off+1,rfl,m,q,fun j x hx=>?_⟩⟩;rw[List.getElem?_take]at hx;split at hx
  ·rw[List.getElem?_drop]at hx;have:=o (1+j) x hx;rw[<-Nat.add_assoc]at this;exact this
  ·simp at hx
theorem kS{α:Type}{l:List α}(h:l.length=2):∃x y,l=[x,y]:=by
 match l,h with
 | [x,y],_=>exact⟨x,y,rfl⟩
theorem pi{α:Type}(f:Nat->α)(i:Nat)(x y:α):U1 (U1 f i x) i y=U1 f i y:=by funext j;unfold U1;split<;>rfl
theorem mb{α:Type}(f:Nat->α)(i:Nat):U1 f i (f i)=f:=by funext j;unfold U1;split<;>simp_all
def WT(K:Nat->Prop)(n:Nat)(p:Nat->Nat)(u w:World)(f:Nat->List UInt8):Prop:=cX w K n p f∧d7 (fun b=>¬K b) u w
section
variable {u w:World} {K:Nat->Prop} {n:Nat} {p:Nat->Nat} {f:Nat->List UInt8}
theorem WT.u8{bs:List UInt8}(i v:Nat)(h:WT K n p u w (U1 f i bs))(g:i<n)(j:v<256)(d:bs.length+1<=1099511627776):
  CZ 148 #[pt (p i),.int .u8 v] w fun e w'=>e=.returned (.tuple #[])∧WT K n p u w' (U1 f i (bs++m9 v 1)):=by
 have:=CI h.1 i v g j (by rw[N7];exact d);rw[N7,pi]at this;exact this.mono fun e w'⟨a,b,c⟩=>⟨a,b,h.2.tr c⟩
theorem WT.u16{bs:List UInt8}(i v:Nat)(h:WT K n p u w (U1 f i bs))(g:i<n)(j:v<65536)(d:bs.length+2<=1099511627776):
  CZ 146 #[pt (p i),.int .u16 v] w fun e w'=>e=.returned (.tuple #[])∧WT K n p u w' (U1 f i (bs++m9 v 2)):=by
 have:=zX h.1 i v g j (by rw[N7];exact d);rw[N7,pi]at this;exact this.mono fun e w'⟨a,b,c⟩=>⟨a,b,h.2.tr c⟩
theorem WT.u32{bs:List UInt8}(i v:Nat)(h:WT K n p u w (U1 f i bs))(g:i<n)(j:v<4294967296)(d:bs.length+4<=1099511627776):
  CZ 150 #[pt (p i),.int .u32 v] w fun e w'=>e=.returned (.tuple #[])∧WT K n p u w' (U1 f i (bs++m9 v 4)):=by
 have:=uF h.1 i v g j (by rw[N7];exact d);rw[N7,pi]at this;exact this.mono fun e w'⟨a,b,c⟩=>⟨a,b,h.2.tr c⟩
end
theorem EC(k:Nat)(h:k<=1000000):wrap64 (k:Int)=(k:Int):=by simp[wrap64];omega
theorem nU{r:Rw}{y:Nat}(h:r.par[0]?=some (y:Int)):I7 r=y:=by
 unfold I7;cases a:r.par with
 |nil=>rw[a]at h;simp at h
 |cons u l=>rw[a]at h;obtain rfl:=Option.some.inj h;simp
theorem BC{K:Nat->Prop}{n:Nat}{p:Nat->Nat}{f:Nat->List UInt8}(S:Nat->Prop)(a:Option Addr)(cap:Nat)(r:Rw)(N:Int)(w:World)(h:p7 w S a cap r.par)(hg:ft r N)(hN:N<=131072)
  (hW:cX w K n p f) (hn:3<=n) (hS:∀b,S b->K b) (ar:(f 1).length<=1000000000) (au:(f 2).length<=1000000000):
  CZ 220 #[pt (p 1),pt (p 2),dD a cap r] w fun e w'=>e=.returned (.tuple #[])∧cX w' K n p (U1 (U1 f 2 (f 2++L8 r)) 1 (f 1++kI r (f 2).length))∧d7 (fun b=>¬K b) w w':=by
 obtain⟨g1,g2,g3,g4,g5,g6,g7⟩:=hg;obtain⟨s0,s2,sb⟩:=fY g7;obtain⟨F,ak⟩:∃k:Nat,r.tree=(k:Int):=⟨r.tree.toNat,by omega⟩;obtain⟨D,ai⟩:∃k:Nat,r.gen=(k:Int):=⟨r.gen.toNat,by omega⟩;obtain⟨E,aj⟩:∃k:Nat,r.state=(k:Int):=⟨r.state.toNat,by omega⟩;have aE:Hid (kI r (f 2).length=m9 F 4++m9 (I7 r) 4++m9 (E6 r (f 2).length) 4++m9 D 2++m9 E 1):=i7 (by unfold kI;rw[ak,ai,aj];simp);have ay:=N2 g6;have O:Hid (∀x∈r.par,0<=x∧x<131072):=i7 fun x hx=>by have:=ay x hx;omega
 have aO:((F:Nat):Int)% 4294967296=(F:Int):=by omega
 have aP:((D:Nat):Int)% 65536=(D:Int):=by omega
 have aQ:((E:Nat):Int)% 256=(E:Int):=by omega
 have B:Hid (F<65536∧D<=1023∧E<=2):=i7 (by omega);have u:Hid ((f 1).length<=1000000000∧(f 2).length<=1000000000∧3<=n∧r.par.length<=16):=⟨ar,au,hn,g1⟩;obtain⟨L,hL⟩:=EX r.par.length;have d:Hid (L=r.par.length):=hL;unfold dD;rw[ak,ai,aj,<-hL];obtain⟨c,ad⟩:=EX (w.alloc (.cells #[.slice a L cap,.int .i64 F,.int .i64 D,.int .i64 E,.string r.bits] 48));have aF:Hid (c=w.alloc (.cells #[.slice a L cap,.int .i64 F,.int .i64 D,.int .i64 E,.string r.bits] 48)):=ad;obtain⟨X,af⟩:=A0 (w:=w) (.cells #[.slice a L cap,.int .i64 F,.int .i64 D,.int .i64 E,.string r.bits] 48);rw[<-ad]at X af;have aL:c.heap.size=w.heap.size+1:=by rw[ad];simp
 obtain⟨K1,ab⟩:∃K1:Nat->Prop,K1=fun b=>K b∨(w.heap.size<=b∧b<c.heap.size):=⟨_,rfl⟩
 have ac:∀b,K b->K1 b:=fun b q=>by rw[ab];exact .inl q
 have Q:Hid (WT K1 n p c c f):=i7 ⟨by rw[ab];exact hW.turned (X.mono fun _ _ q=>q.elim),TQ⟩;have aC:Hid (∀w' f',WT K1 n p c w' f'->cX w' K n p f'∧d7 (fun b=>¬K b) w w'):=i7 fun w' f'⟨h1,h2⟩=>
  ⟨h1.mono ac,X.comp h2 fun b hb q=>q.elim (fun q=>q.elim) fun q k=>q (ac b k)⟩
 have BX:Hid (∀W,d7 (fun b=>¬K1 b) c W->(W.cell? ⟨w.heap.size,0,none⟩=some (.slice a L cap)∧W.cell? ⟨w.heap.size,1,none⟩=some (.int .i64 F)∧W.cell? ⟨w.heap.size,2,none⟩=some (.int .i64 D)∧W.cell? ⟨w.heap.size,3,none⟩=some (.int .i64 E)∧w.heap.size<W.heap.size)∧p7 W S a cap r.par):=i7 fun W t=>by
  have h1:=j9 af t fun q=>q (by rw[ab];exact .inr ⟨LS _,by omega⟩)
  exact⟨⟨g9 h1 0 _ rfl,g9 h1 1 _ rfl,g9 h1 2 _ rfl,g9 h1 3 _ rfl,i6 h1⟩,(h.turned X fun _ _ q=>q).turned t fun b q z=>z (ac b (hS b q))⟩
 have SZ:Hid (I7 r<4294967296∧E6 r (f 2).length<4294967296):=i7 (by
  refine⟨?_,?_⟩
  ·unfold I7;split
   ·omega
   ·rename_i p l hp;have:=O.o p (by rw[hp];simp);omega
  ·unfold E6;split
   ·omega
   ·split
    ·rename_i hp;obtain⟨x,I,hx⟩:=kS hp;have:=O.o I (by rw[hx];simp);rw[hx];show I.toNat<_;omega
    ·omega)
 obtain⟨⟨k0,-,-,-,kl⟩,-⟩:=BX.o c Q.o.2;clear ad af X aL ac ab hS ar au h g1 g2 g3 g4 g5 g6 g7 hL hn hW ay ak ai aj s0 s2 sb;go_enter func220,ntmps220;go_upto_block 0 with fail
 rw[<-aF.o];go_cut[7]from 11 to 54 (fun s wx=>s=.int .u32 (E6 r (f 2).length:Nat)∧WT K1 n p c wx (U1 f 2 (f 2++L8 r)))
 case first=>
  by_cases h3:2<L
  ·have d2:decide ((2:Int)<(L:Int))=true:=LX (by omega);have al:2<n:=by have:=u.o;omega
   obtain⟨v,am⟩:∃v,v+1=L:=⟨L-1,by omega⟩;have ap:((L:Nat):Int)-1=(v:Int):=by omega
   obtain⟨m,ao⟩:∃m,m+2=L:=⟨L-2,by omega⟩;have P:Hid (v+1=L∧m+2=L∧L<=16):=i7 ⟨am,ao,by have:=u.o;have:=d.o;omega⟩;obtain⟨a',aG,aA,ag⟩:=zY S a cap r.par (by have:=d.o;omega) c (BX.o c Q.o.2).2;rw[show r.par.length-2=m by have:=d.o;omega,show r.par.length-1=v by have:=d.o;omega,<-d.o]at aA;rw[show r.par.length-2=m by have:=d.o;omega]at ag;have Y:Hid (((r.par.drop 1).take m).length=m∧L8 r=gI ((r.par.drop 1).take m)++m9 ((r.par[v]?.getD 0).toNat+2147483648) 4):=i7 (by have:=d.o;refine⟨by simp only[List.length_take,List.length_drop];omega,?_⟩;unfold L8;rw[if_pos (by omega),show r.par.length-2=m by omega,show r.par.length-1=v by omega]);have aD:Hid (∀W,d7 (fun b=>¬K1 b) c W->p7 W S a' aG ((r.par.drop 1).take m)):=i7 fun W t=>ag W (BX.o W t).2
   generalize ax:(r.par.drop 1).take m=H at *;have ML:Hid (∀x∈H,0<=x∧x<131072):=i7 fun x hx=>O.o x (List.mem_of_mem_drop (LY (ax▸hx)))
   obtain⟨R,az⟩:=EX ((f 2).length / 4);have av:=uG Q.o.1 2 al;have aI:(((f 2).length:Nat):Int) / 4=(R:Int):=by omega
   have aJ:((R:Nat):Int)% 4294967296=(R:Int):=by have:=u.o;omega
   have aK:(2147483648+((R:Nat):Int))% 4294967296=((2147483648+R:Nat):Int):=by have:=u.o;omega
   have A:Hid (E6 r (f 2).length=2147483648+R):=i7 (by unfold E6;rw[if_pos (d.o▸h3),az]);clear az am ao ag h3 ax al;have an:L<=16:=P.o.2.2;go_wp2_with(go_fit av;rintro e w2⟨rfl,rfl⟩);clear av aI aJ aK aA k0 kl ap an;go_loopg[28] m (fun g i wr=>∃j:Nat,j+g=m∧i=.int .i64 j∧WT K1 n p c wr (U1 f 2 (f 2++gI (H.take j))))
   case atStart=>exact⟨0,Nat.zero_add _,rfl,by simpa[gI,mb]using Q.o⟩
   case round=>
    obtain⟨j,aq,rfl,J⟩:=hrel;have G:Hid (j+gk=m):=aq;have WS:Hid (WT K1 n p c wr (U1 f 2 (f 2++gI (H.take j)))):=J;have aw:(f 2++gI (H.take j)).length<=1000000100:=by have:=u.o;have:=P.o;have:=Y.o.1;simp only[List.length_append,fX,List.length_take];omega
    clear aq;by_cases aH:j<m
    ·obtain⟨x,hx⟩:∃x,H[j]?=some x:=⟨_,LB (by rw[Y.o.1];exact aH)⟩;have M:=ML.o x (LI hx);obtain⟨y,rfl⟩:∃y:Nat,x=(y:Int):=⟨x.toNat,by omega⟩;obtain⟨g,off,rfl,-,ah,Z⟩:=B8 (aD.o wr J.2) j (y:Int) hx;have hy:((y:Nat):Int)% 4294967296=(y:Int):=by omega
     have hA:=J.u32 2 y (by have:=u.o;omega) (by omega) (by omega);have C:Hid (gI (H.take (j+1))=gI (H.take j)++m9 y 4):=nT _ j _ hx;clear hx M J aw;go_wp2_with(go_fit hA;rintro e w2⟨rfl,A2⟩);go_roundg (gk-1)
     case measure=>have:=G.o;omega
     case rel=>exact⟨j+1,by have:=G.o;omega,by have:=P.o;simp[wrap64];omega,by rw[C.o,<-List.append_assoc];exact A2⟩
    ·obtain⟨x,hx⟩:∃x,r.par[v]?=some x:=⟨_,LB (by have:=P.o;have:=d.o;omega)⟩;have M:=O.o x (LI hx);obtain⟨y,rfl⟩:∃y:Nat,x=(y:Int):=⟨x.toNat,by omega⟩;obtain⟨⟨k0,-,-,-,kl⟩,V⟩:=BX.o wr J.2;obtain⟨g,off,rfl,-,ah,Z⟩:=B8 V v (y:Int) hx;have hy:((y:Nat):Int)% 4294967296=(y:Int):=by omega
     obtain⟨y2,aB⟩:=EX (y+2147483648);have aS:((y:Nat):Int)+2147483648=(y2:Int):=by omega
     have aR:(((y:Nat):Int)+2147483648)% 4294967296=(y2:Int):=by omega
     have hA:=J.u32 2 y2 (by have:=u.o;omega) (by omega) (by omega);have C:Hid (f 2++L8 r=f 2++gI (H.take j)++m9 y2 4):=i7 (by rw[Y.o.2,hx,List.take_of_length_le (by rw[Y.o.1];have:=G.o;omega),List.append_assoc,aB];rfl);have ap:((L:Nat):Int)-1=(v:Int):=by have:=P.o;omega
     clear hx M J aw V aB;have an:L<=16:=P.o.2.2;go_wp2_with(go_fit hA;rintro e w2⟨rfl,A2⟩);go_meet
     case rel=>exact⟨by rw[A.o];simp,by rw[C.o];exact A2⟩
  ·have d2:decide ((2:Int)<(L:Int))=false:=LD (by omega)
   have W2:Hid (WT K1 n p c c (U1 f 2 (f 2++L8 r))):=i7 (by
    have e:L8 r=[]:=by unfold L8;rw[if_neg (by have:=d.o;omega)]
    rw[e,List.append_nil,mb];exact Q.o)
   by_cases h2:L=2
   ·obtain⟨x,I,hx⟩:∃x I,r.par=[x,I]:=kS (d.o.symm.trans h2);have M:=O.o I (by rw[hx];simp);obtain⟨y,rfl⟩:∃y:Nat,I=(y:Int):=⟨I.toNat,by omega⟩;obtain⟨g,off,rfl,-,ah,Z⟩:=B8 (BX.o c Q.o.2).2 1 (y:Int) (by rw[hx];rfl);have hy:((y:Nat):Int)% 4294967296=(y:Int):=by omega
    have d0:=oS (L:Int) 2 (by omega);have d1:decide (1<L)=true:=LX (by omega);have d3:decide ((1:Int)<(L:Int))=true:=LX (by omega);have A:Hid (E6 r (f 2).length=y):=i7 (by unfold E6;rw[hx];simp);clear hx M;go_wp2_with fail;go_meet
    case rel=>exact⟨by rw[A.o],W2.o⟩
   ·have d0:=iG (L:Int) 2 (by omega);have A:Hid (E6 r (f 2).length=4294967295):=i7 (by unfold E6;rw[if_neg (by have:=d.o;omega),if_neg (by have:=d.o;omega)]);go_wp2_with fail;go_meet
    case rel=>exact⟨by rw[A.o];rfl,W2.o⟩
 case rest=>
 obtain⟨rfl,C0⟩:=hcut;clear k0 kl;obtain⟨T,aa⟩:=EX (U1 f 2 (f 2++L8 r));rw[<-aa]at C0;have ae:Hid (T=U1 f 2 (f 2++L8 r)∧T 1=f 1):=i7 ⟨aa,by rw[aa,db _ _ _ _ (by decide)]⟩;obtain⟨⟨k0,k1,-,-,kl⟩,V⟩:=BX.o wc C0.2;clear aa;go_upto_if 58 with fail
 go_cut[6]from 55 to 63 (fun s wx=>s=.int .u32 (I7 r:Nat)∧wc=wx)
 case first=>
  by_cases h0:L=0
  ·have d0:decide ((0:Int)<(L:Int))=false:=LD (by omega);have A:Hid (I7 r=4294967295):=i7 (by unfold I7;rw[List.eq_nil_of_length_eq_zero (d.o.symm.trans h0)]);go_wp2_with fail;go_meet
   case rel=>exact⟨by rw[A.o];rfl,rfl⟩
  ·obtain⟨x,hx⟩:∃x,r.par[0]?=some x:=⟨_,LB (by have:=d.o;omega)⟩;have M:=O.o x (LI hx);obtain⟨y,rfl⟩:∃y:Nat,x=(y:Int):=⟨x.toNat,by omega⟩;obtain⟨g,off,rfl,-,ah,Z⟩:=B8 V 0 (y:Int) hx;rw[Nat.add_zero]at Z;have hy:((y:Nat):Int)% 4294967296=(y:Int):=by omega
   have A:Hid (I7 r=y):=i7 (nU hx);have d0:decide ((0:Int)<(L:Int))=true:=LX (by omega);have d1:decide (0<L)=true:=LX (by omega);clear hx M;go_wp2_with fail;go_meet
   case rel=>exact⟨by rw[A.o],rfl⟩
 case rest=>
 obtain⟨rfl,rfl⟩:=hcut;generalize I7 r=fN at *;generalize E6 r (f 2).length=sN at *;have A1:WT K1 n p c wc (U1 T 1 (T 1)):=by rw[mb];exact C0
 have U:Hid ((T 1).length<=1000000000):=i7 (by rw[ae.o.2];exact u.o.1);clear V
 go_wp2_with(first
  |(go_fit(A1.u32 1 F (by have:=u.o;omega) (by have:=B.o;omega) (by have:=U.o;omega));rintro e w2⟨rfl,A2⟩)
  |(go_fit(A2.u32 1 fN (by have:=u.o;omega) SZ.o.1 (by have:=U.o;simp only[List.length_append,j6];omega));rintro e w3⟨rfl,A3⟩)
  |(go_fit(A3.u32 1 sN (by have:=u.o;omega) SZ.o.2 (by have:=U.o;simp only[List.length_append,j6];omega));rintro e w4⟨rfl,A4⟩;obtain⟨⟨-,-,x4,-,aM⟩,-⟩:=BX.o w4 A4.2)
  |(go_fit(A4.u16 1 D (by have:=u.o;omega) (by have:=B.o;omega) (by have:=U.o;simp only[List.length_append,j6];omega));rintro e w5⟨rfl,A5⟩;obtain⟨⟨-,-,-,x5,aN⟩,-⟩:=BX.o w5 A5.2)
  |(go_fit(A5.u8 1 E (by have:=u.o;omega) (by have:=B.o;omega) (by have:=U.o;simp only[List.length_append,j6];omega));rintro e w6⟨rfl,A6⟩))
 go_end0;obtain⟨z1,z2⟩:=aC.o w6 _ A6;refine⟨rfl,?_,z2⟩;rw[aE.o,<-ae.o.1,<-ae.o.2];simpa only[List.append_assoc]using z1
end Go.Proofs.YtofcogekgcgjhaaGreatDoor
namespace Go.Proofs.YtofcogekgcgjhaaGreatDoor
open Go.RowKit Go.Mine Go.Proofs.Tryz
structure Tl where
 R:List UInt8
 E:List UInt8
 N:List UInt8
 B:List UInt8
def N8(t:Tl)(r:Rw):Tl:=⟨t.R++kI r t.E.length,t.E++L8 r,t.N++m9 (t.B++r.bits.data.toList).length 4,t.B++r.bits.data.toList⟩
def n9(l:List Rw):Tl:=l.foldl N8 ⟨[],[],[],[]⟩
theorem mc(l:List Rw)(r:Rw):n9 (l++[r])=N8 (n9 l) r:=by simp[n9]
theorem me(l:List Rw)(j:Nat)(r:Rw)(h:l[j]?=some r):n9 (l.take (j+1))=N8 (n9 (l.take j)) r:=by rw[List.take_add_one,h];exact mc _ _
def fZ(g:Gr):List UInt8:=m9 g.base.toNat 4++m9 g.rows.length 4++m9 g.h.toNat 1++m9 g.p.toNat 1++m9 g.m.toNat 2++m9 g.seed 4
def H6(g:Gr):List Ch:=[(1,⟨(fZ g).toArray⟩),(2,⟨(n9 g.rows).R.toArray⟩),(3,⟨(n9 g.rows).E.toArray⟩),(4,⟨(n9 g.rows).N.toArray⟩),(5,⟨(n9 g.rows).B.toArray⟩)]
noncomputable def iV(g:Gr):Value:=if jZ g=0 then if 4194304<(n9 g.rows).B.length then .tuple #[.string ⟨#[]⟩,.int .i64 5]else s7 (H6 g)else .tuple #[.string ⟨#[]⟩,.int .i64 1]
theorem ee{α d:Type}(f:d->α->d)(P:List α->d->Prop)(b:d)(g:P [] b)(h1:∀l x c,P l c->P (l++[x]) (f c x))(l:List α):P l (l.foldl f b):=by
 have:∀(k:List α)(a:List α)(c:d),P a c->P (a++k) (k.foldl f c):=by
  intro k
  induction k with|nil=>intro a c e;simpa using e|cons x k h=>intro a c e;have:=h (a++[x]) (f c x) (h1 a x c e);simpa using this
 simpa using this l [] b g
theorem kT(l:List Rw):(n9 l).R.length=15*l.length:=by refine ee N8 (fun l t=>t.R.length=15*l.length) _ rfl (fun l x c h=>?_) l;simp only[N8,List.length_append,ku,h,List.length_cons,List.length_nil];omega
theorem kU(l:List Rw):(n9 l).N.length=4*l.length:=by refine ee N8 (fun l t=>t.N.length=4*l.length) _ rfl (fun l x c h=>?_) l;simp only[N8,List.length_append,j6,h,List.length_cons,List.length_nil];omega
theorem kV(l:List Rw)(a:∀r∈l,r.par.length<=16):(n9 l).E.length<=64*l.length:=by
 have:=ee N8 (fun l t=>(∀r∈l,r.par.length<=16)->t.E.length<=64*l.length) ⟨[],[],[],[]⟩ (by simp) (fun l x c h a=>by
  have h1:=h fun r b=>a r (by simp[b])
  have h2:=iU x;have h3:=a x (by simp);simp only[N8,List.length_append,List.length_cons,List.length_nil];omega) l
 exact this a
theorem cY(l:List Rw)(j:Nat):(n9 (l.take j)).B.length<=(n9 l).B.length:=by
 have:∀(k:List Rw)(a:List Rw),(n9 a).B.length<=(n9 (a++k)).B.length:=by
  intro k
  induction k with|nil=>intro a;simp|cons x k b=>intro a;have h1:=b (a++[x]);rw[mc]at h1;simp only[N8,List.length_append]at h1;rw[List.append_assoc]at h1;simp only[List.singleton_append]at h1;omega
 have h:=this (l.drop j) (l.take j);rwa[List.take_append_drop]at h
def I0{α:Type}(a b c d e:α):Nat->α
 |0=>a
 |1=>b
 |2=>c
 |3=>d
 |_+4=>e
section
variable {α:Type} (a b c d e x y:α)
theorem five0:U1 (I0 a b c d e) 0 x=I0 x b c d e:=by funext i;rcases i with _|_|_|_|i<;>simp[U1,I0]
theorem five_row:U1 (U1 (I0 a b c d e) 2 y) 1 x=I0 a x y d e:=by funext i;rcases i with _|_|_|_|i<;>simp[U1,I0]
theorem five3:U1 (I0 a b c d e) 3 x=I0 a b c x e:=by funext i;rcases i with _|_|_|_|i<;>simp[U1,I0]
theorem ED(i:Nat)(f:i<5):U1 (I0 a b c d e) 4 x i=I0 a b c d x i:=by rcases i with _|_|_|_|_|i<;>first|(exfalso;omega)|simp[U1,I0]
theorem rQ(p:Nat->α)(i:Nat)(f:i<5):U1 (U1 (U1 (U1 (U1 p 0 a) 1 b) 2 c) 3 d) 4 e i=I0 a b c d e i:=by rcases i with _|_|_|_|_|i<;>first|(exfalso;omega)|simp[U1,I0]
end
theorem N0.bound{w:World}{S:Nat->Prop}{a:Option Addr}{cap:Nat}{l:List Rw}(h:N0 w S a cap l):N0 w (fun b=>b<w.heap.size) a cap l:=by obtain⟨h1,h2,h3,h4⟩:=h;refine⟨h1,h2,h3,fun q=>?_⟩;obtain⟨g,off,rfl,e,c,d⟩:=h4 q;refine⟨g,off,rfl,c,c,fun i r f=>?_⟩;obtain⟨a,cap,⟨j,m,n,o⟩,k⟩:=d i r f;refine⟨a,cap,⟨j,m,n,fun q=>?_⟩,k⟩;obtain⟨g,off,rfl,e,c,d⟩:=o q;exact⟨g,off,rfl,c,c,d⟩
theorem nV(w:World)(a b c d e:ByteArray)(j:a.size<=140737488355328∧b.size<=140737488355328∧c.size<=140737488355328∧d.size<=140737488355328∧e.size<=140737488355328):
  dU (w.alloc (.cells #[.int .u32 1,.string a,.int .u32 2,.string b,.int .u32 3,.string c,.int .u32 4,.string d,.int .u32 5,.string e] 285)) (some ⟨w.heap.size,0,none⟩) 5 [(1,a),(2,b),(3,c),(4,d),(5,e)]:=by
 obtain⟨h1,h2,h3,h4,h⟩:=j;have f:=heap_alloc_last w (.cells #[.int .u32 1,.string a,.int .u32 2,.string b,.int .u32 3,.string c,.int .u32 4,.string d,.int .u32 5,.string e] 285);refine⟨LS _,by simp[maxLen],fun x hx=>?_,fun _=>⟨w.heap.size,0,rfl,by simp,fun i x g=>?_⟩⟩
 ·simp only[List.mem_cons,List.not_mem_nil,or_false]at hx;rcases hx with rfl|rfl|rfl|rfl|rfl
  ·exact⟨(by decide:(1:Nat)<4294967296),h1⟩
  ·exact⟨(by decide:(2:Nat)<4294967296),h2⟩
  ·exact⟨(by decide:(3:Nat)<4294967296),h3⟩
  ·exact⟨(by decide:(4:Nat)<4294967296),h4⟩
  ·exact⟨(by decide:(5:Nat)<4294967296),h⟩
 ·rcases i with _|_|_|_|_|i
  ·obtain rfl:=Option.some.inj g;exact⟨g9 f 0 _ rfl,g9 f 1 _ rfl⟩
  ·obtain rfl:=Option.some.inj g;exact⟨g9 f 2 _ rfl,g9 f 3 _ rfl⟩
  ·obtain rfl:=Option.some.inj g;exact⟨g9 f 4 _ rfl,g9 f 5 _ rfl⟩
  ·obtain rfl:=Option.some.inj g;exact⟨g9 f 6 _ rfl,g9 f 7 _ rfl⟩
  ·obtain rfl:=Option.some.inj g;exact⟨g9 f 8 _ rfl,g9 f 9 _ rfl⟩
  ·simp at g
end Go.Proofs.YtofcogekgcgjhaaGreatDoor
namespace Go.Proofs.YtofcogekgcgjhaaGreatDoor
open Go.RowKit Go.Mine Go.Proofs.Tryz
def CM(rows:List Rw)(H:List UInt8)(P:Nat->Nat)(K:Nat->Prop)(w:World)(g:Nat)(i:Value)(wr:World):Prop:=∃j:Nat,j+g=rows.length∧i=.int .i64 j∧cX wr K 5 P (I0 H (n9 (rows.take j)).R (n9 (rows.take j)).E (n9 (rows.take j)).N (n9 (rows.take j)).B)∧d7 (fun b=>¬K b) w wr
theorem uH(s:ByteArray):s.data.toList.length=s.size:=by simp
section
variable {w:World} {K:Nat->Prop} {P:Nat->Nat} {H R E N B:List UInt8}
theorem CO(h:cX w K 5 P (I0 H R E N B))(v:Nat)(a:v<256)(c:H.length<=1000000):
  CZ 148 #[pt (P 0),.int .u8 v] w fun e w'=>e=.returned (.tuple #[])∧cX w' K 5 P (I0 (H++m9 v 1) R E N B)∧d7 (fun b=>¬K b) w w':=by
 have:=CI h 0 v (by decide) a (by show H.length+1<=_;omega);rwa[five0]at this
theorem DX(h:cX w K 5 P (I0 H R E N B))(v:Nat)(a:v<65536)(c:H.length<=1000000):
  CZ 146 #[pt (P 0),.int .u16 v] w fun e w'=>e=.returned (.tuple #[])∧cX w' K 5 P (I0 (H++m9 v 2) R E N B)∧d7 (fun b=>¬K b) w w':=by
 have:=zX h 0 v (by decide) a (by show H.length+2<=_;omega);rwa[five0]at this
theorem uI(h:cX w K 5 P (I0 H R E N B))(v:Nat)(a:v<4294967296)(c:H.length<=1000000):
  CZ 150 #[pt (P 0),.int .u32 v] w fun e w'=>e=.returned (.tuple #[])∧cX w' K 5 P (I0 (H++m9 v 4) R E N B)∧d7 (fun b=>¬K b) w w':=by
 have:=uF h 0 v (by decide) a (by show H.length+4<=_;omega);rwa[five0]at this
theorem DY(h:cX w K 5 P (I0 H R E N B))(v:Nat)(a:v<4294967296)(c:N.length<=1000000):
  CZ 150 #[pt (P 3),.int .u32 v] w fun e w'=>e=.returned (.tuple #[])∧cX w' K 5 P (I0 H R E (N++m9 v 4) B)∧d7 (fun b=>¬K b) w w':=by
 have:=uF h 3 v (by decide) a (by show N.length+4<=_;omega);rwa[five3]at this
theorem DZ(h:cX w K 5 P (I0 H R E N B))(s:ByteArray)(c:B.length+s.size<=1000000000):
  CZ 149 #[pt (P 4),.string s] w fun e w'=>e=.returned (.tuple #[])∧cX w' K 5 P (I0 H R E N (B++s.data.toList))∧d7 (fun b=>¬K b) w w':=by
 refine(DV h 4 s (by decide) (by show B.length+s.size<=_;omega)).mono fun e w'⟨h1,h2,h3⟩=>⟨h1,h2.congr (fun _ _=>rfl) fun i a=>(ED _ _ _ _ _ _ i a).symm,h3⟩
theorem EE{S:Nat->Prop}(h:cX w K 5 P (I0 H R E N B))(a:Option Addr)(cap:Nat)(r:Rw)(n:Int)(f:p7 w S a cap r.par)(d:ft r n)(g:n<=131072)(c:∀b,S b->K b)(h1:R.length<=1000000000)(h2:E.length<=1000000000):
  CZ 220 #[pt (P 1),pt (P 2),dD a cap r] w fun e w'=>e=.returned (.tuple #[])∧cX w' K 5 P (I0 H (R++kI r E.length) (E++L8 r) N B)∧d7 (fun b=>¬K b) w w':=by
 have:=BC S a cap r n w f d g h (by decide) c h1 h2;have e:U1 (U1 (I0 H R E N B) 2 (I0 H R E N B 2++L8 r)) 1 (I0 H R E N B 1++kI r (I0 H R E N B 2).length)=I0 H (R++kI r E.length) (E++L8 r) N B:=five_row _ _ _ _ _ _ _;rwa[e]at this
end
theorem uJ(S0:Nat->Prop)(a:Option Addr)(cap:Nat)(g:Gr)(w:World)(h0:N0 w S0 a cap g.rows)(aU:iF g)(hg:Y2 g)(hB:¬4194304<(n9 g.rows).B.length):
  CZ 132 #[xG a cap g] w (RT (iV g) w):=by
 have h:=h0.bound;obtain⟨L,V⟩:=EX g.rows.length;have P:Hid (L=g.rows.length):=V;have al:CZ 219 #[.agg #[.int .i64 g.base,.int .i64 g.h,.int .i64 g.p,.int .i64 g.m,.int .u32 g.seed,.slice a L cap]] (w.alloc (.cells #[.int .i64 g.base,.int .i64 g.h,.int .i64 g.p,.int .i64 g.m,.int .u32 g.seed,.slice a L cap] 123)) (RT (.int .i64 0) (w.alloc (.cells #[.int .i64 g.base,.int .i64 g.h,.int .i64 g.p,.int .i64 g.m,.int .u32 g.seed,.slice a L cap] 123))):=by rw[V];exact xH S0 a cap g _ (h0.turned (d7.alloc (fun _=>False) w _) fun _ _ q=>q) hg
 unfold xG;rw[<-V];obtain⟨⟨n1,n2,n3⟩,⟨s1,s2,s3,s4,s5,s6⟩,aW⟩:=id hg;rw[<-V]at n3;obtain⟨n,ac⟩:∃k:Nat,g.base=(k:Int):=⟨g.base.toNat,by omega⟩;obtain⟨F,an⟩:∃k:Nat,g.h=(k:Int):=⟨g.h.toNat,by omega⟩;obtain⟨I,aq⟩:∃k:Nat,g.p=(k:Int):=⟨g.p.toNat,by omega⟩;obtain⟨H,ao⟩:∃k:Nat,g.m=(k:Int):=⟨g.m.toNat,by omega⟩;obtain⟨Q,af⟩:=EX g.seed;have bz:Q<4294967296:=by rw[af];exact aU.2.2.2.2
 have HH:Hid (fZ g=m9 n 4++m9 L 4++m9 F 1++m9 I 1++m9 H 2++m9 Q 4):=i7 (by unfold fZ;rw[ac,an,aq,ao,<-V,<-af];simp);have ab:Hid (iV g=s7 (H6 g)∧(n9 g.rows).B.length<=4194304):=i7 ⟨by unfold iV;rw[if_pos (jw hg),if_neg hB],by omega⟩;have ax:Hid (H6 g=[(1,⟨(fZ g).toArray⟩),(2,⟨(n9 g.rows).R.toArray⟩),(3,⟨(n9 g.rows).E.toArray⟩),(4,⟨(n9 g.rows).N.toArray⟩),(5,⟨(n9 g.rows).B.toArray⟩)]):=rfl;have GR:Hid (∀(i:Nat)(r:Rw),g.rows[i]?=some r->ft r ((n:Int)+i)∧((n:Int)+i)<=131072):=i7 fun i r U=>by rw[<-ac];refine⟨aW i r U,?_⟩;have:=(LA.1 U).1;omega
 rw[ac,an,aq,ao,<-af]at al ⊢;have m1:((n:Nat):Int)% 4294967296=(n:Int):=by omega
 have m2:((L:Nat):Int)% 4294967296=(L:Int):=by omega
 have m3:((F:Nat):Int)% 256=(F:Int):=by omega
 have m4:((I:Nat):Int)% 256=(I:Int):=by omega
 have m5:((H:Nat):Int)% 65536=(H:Int):=by omega
 have C:Hid (n<=65536∧L<=65536∧F<=16∧I<=64∧H<=512∧Q<4294967296):=(by omega:n<=65536∧L<=65536∧F<=16∧I<=64∧H<=512∧Q<4294967296);have HI:Hid (N0 w (fun b=>b<w.heap.size) a cap g.rows):=h;generalize iV g=EV at *;generalize fZ g=l at *;generalize H6 g=CG at *;generalize g.rows=rows at *;clear ac an aq ao af V h h0 aU hg hB n1 n2 n3 s1 s2 s3 s4 s5 s6 aW bz;go_enter func132,ntmps132
 go_wp2_with(first
  |(go_fit al;rintro e c⟨rfl,av⟩;have D:Hid (c.heap[w.heap.size]?=some (.cells #[.int .i64 n,.int .i64 F,.int .i64 I,.int .i64 H,.int .u32 Q,.slice a L cap] 123 (0,0))∧TF w c):=⟨(av.block _ (by simp) fun q=>q).trans (heap_alloc_last w _),TA.tr av⟩;obtain⟨P0,br⟩:∃P0:Nat->Nat,P0=fun _=>0:=⟨_,rfl⟩;obtain⟨F0,bp⟩:∃F0:Nat->List UInt8,F0=fun _=>[]:=⟨_,rfl⟩;clear br bp;have aP:=U9 (cX.none c (fun b=>b<c.heap.size) (fun _ q=>q) P0 F0);clear av)
  |(go_fit aP;rintro e w2⟨rfl,aX,a8⟩;have W2:Hid (TF c w2):=a8;have aQ:=U9 aX;clear aP aX a8)
  |(go_fit aQ;rintro e M⟨rfl,aY,a9⟩;have W3:Hid (TF c M):=W2.o.tr a9;have aR:=U9 aY;clear aQ aY a9)
  |(go_fit aR;rintro e O⟨rfl,aZ,ba⟩;have W4:Hid (TF c O):=W3.o.tr ba;have aS:=U9 aZ;clear aR aZ ba)
  |(go_fit aS;rintro e v⟨rfl,a0,bb⟩;have W5:Hid (TF c v):=W4.o.tr bb;have aT:=U9 a0;clear aS a0 bb)
  |(go_fit aT;rintro e d⟨rfl,a1,bc⟩;have Y:Hid (TF c d):=W5.o.tr bc;have bm:Hid (cX d (fun b=>b<c.heap.size) 5 (I0 c.heap.size w2.heap.size M.heap.size O.heap.size v.heap.size) (I0 [] [] [] [] [])):=a1.congr (fun i S=>(rQ _ _ _ _ _ P0 i S).symm) (fun i S=>(rQ _ _ _ _ _ F0 i S).symm);have f:Hid (∀W,d7 (fun b=>¬b<c.heap.size) d W->W.heap[w.heap.size]?=some (.cells #[.int .i64 n,.int .i64 F,.int .i64 I,.int .i64 H,.int .u32 Q,.slice a L cap] 123 (0,0))):=(fun W t=>((t.block _ (by have:=i6 D.o.1;have:=Y.o.size;omega) fun q=>q (i6 D.o.1)).trans (Y.o.block _ (i6 D.o.1) fun q=>q)).trans D.o.1);have y0:=g9 (f.o d TQ) 0 _ rfl;have bD:=i6 (f.o d TQ);have az:CZ 150 #[pt c.heap.size,.int .u32 n] d _:=uI bm.o n (by have:=C.o;omega) (by decide);clear aT a1 bc)
  |(go_fit az;rintro e w7⟨rfl,a5,bh⟩;have V7:Hid (d7 (fun b=>¬b<c.heap.size) d w7):=bh;have y1:=g9 (f.o w7 V7.o) 5 _ rfl;have bE:=i6 (f.o w7 V7.o);have aA:CZ 150 #[pt c.heap.size,.int .u32 L] w7 _:=uI a5 L (by have:=C.o;omega) (by simp[j6]);clear az a5 bh)
  |(go_fit aA;rintro e w8⟨rfl,a6,bi⟩;have V8:Hid (d7 (fun b=>¬b<c.heap.size) d w8):=V7.o.tr bi;have y2:=g9 (f.o w8 V8.o) 1 _ rfl;have bF:=i6 (f.o w8 V8.o);have aB:CZ 148 #[pt c.heap.size,.int .u8 F] w8 _:=CO a6 F (by have:=C.o;omega) (by simp[j6]);clear aA a6 bi)
  |(go_fit aB;rintro e w9⟨rfl,a7,bj⟩;have V9:Hid (d7 (fun b=>¬b<c.heap.size) d w9):=V8.o.tr bj;have y3:=g9 (f.o w9 V9.o) 2 _ rfl;have bG:=i6 (f.o w9 V9.o);have aC:CZ 148 #[pt c.heap.size,.int .u8 I] w9 _:=CO a7 I (by have:=C.o;omega) (by simp[j6]);clear aB a7 bj)
  |(go_fit aC;rintro e ag⟨rfl,a2,bd⟩;have ai:Hid (d7 (fun b=>¬b<c.heap.size) d ag):=V9.o.tr bd;have y4:=g9 (f.o ag ai.o) 3 _ rfl;have bH:=i6 (f.o ag ai.o);have aD:CZ 146 #[pt c.heap.size,.int .u16 H] ag _:=DX a2 H (by have:=C.o;omega) (by simp[j6]);clear aC a2 bd)
  |(go_fit aD;rintro e ah⟨rfl,a3,bf⟩;have aj:Hid (d7 (fun b=>¬b<c.heap.size) d ah):=ai.o.tr bf;have y5:=g9 (f.o ah aj.o) 4 _ rfl;have bI:=i6 (f.o ah aj.o);have aE:CZ 150 #[pt c.heap.size,.int .u32 Q] ah _:=uI a3 Q (by have:=C.o;omega) (by simp[j6]);clear aD a3 bf)
  |(go_fit aE;rintro e X⟨rfl,a4,bg⟩;have ak:Hid (d7 (fun b=>¬b<c.heap.size) d X):=aj.o.tr bg;have y6:=g9 (f.o X ak.o) 5 _ rfl;have bJ:=i6 (f.o X ak.o);have bl:Hid (cX X (fun b=>b<c.heap.size) 5 (I0 c.heap.size w2.heap.size M.heap.size O.heap.size v.heap.size) (I0 l [] [] [] [])):=(by rw[HH.o];simpa only[List.nil_append]using a4:cX X (fun b=>b<c.heap.size) 5 (I0 c.heap.size w2.heap.size M.heap.size O.heap.size v.heap.size) (I0 l [] [] [] []));clear aE a4 bg))
 have HS:Hid (CM rows l (I0 c.heap.size w2.heap.size M.heap.size O.heap.size v.heap.size) (fun b=>b<c.heap.size) d L (.int .i64 0) X):=⟨0,by rw[P.o,Nat.zero_add],rfl,bl.o,ak.o⟩;clear y0 y1 y2 y3 y4 y5 y6 bD bE bF bG bH bI bJ al;go_loopg[56] L (fun g i wr=>CM rows l (I0 c.heap.size w2.heap.size M.heap.size O.heap.size v.heap.size) (fun b=>b<c.heap.size) d g i wr)
 case atStart=>exact HS.o
 case round=>
  obtain⟨j,aN,rfl,A,aw⟩:=hrel;have G:Hid (j+gk=rows.length):=aN;have T:Hid (d7 (fun b=>¬b<c.heap.size) d wr):=aw;have BL:Hid ((n9 (rows.take j)).B.length<=4194304):=LR (cY rows j) ab.o.2;have WS:Hid (cX wr (fun b=>b<c.heap.size) 5 (I0 c.heap.size w2.heap.size M.heap.size O.heap.size v.heap.size) (I0 l (n9 (rows.take j)).R (n9 (rows.take j)).E (n9 (rows.take j)).N (n9 (rows.take j)).B)):=A;have bN:c.heap.size<=wr.heap.size:=by have:=Y.o.size;have:=aw.size;omega
  have bK:j+gk<=65536:=by have:=C.o;have:=P.o;omega
  clear aN A aw HS;by_cases bw:j<L
  ·obtain⟨r,U⟩:∃r,rows[j]?=some r:=⟨_,LB (by rw[<-P.o];exact bw)⟩;obtain⟨am,aL⟩:=GR.o j r U;have Z:∀x∈rows.take j,x.par.length<=16:=fun x hx=>by obtain⟨i,S⟩:=LM (LY hx);exact(GR.o i x S).1.1
   have hE:=kV (rows.take j) Z;have hR:=kT (rows.take j);have hN:=kU (rows.take j);have bA:(rows.take j).length<=65536:=by have:=C.o;have:=P.o;simp only[List.length_take];omega
   have au:=me rows j r U;have ap:=cY rows (j+1);have aG:r.bits.size<=4096:=(fY am.2.2.2.2.2.2).2.2;obtain⟨b,off,rfl,hS,bL,ra,J,aM,c0,c1,c2,c3,c4⟩:=dM (((HI.o.turned D.o.2 fun _ _ q=>q).turned Y.o fun _ _ q=>q).turned T.o fun b q z=>z (LC q D.o.2.size)) j r U;have aF:=WS.o.turned ((d7.alloc (fun _=>False) wr (.cells #[.slice ra r.par.length J,.int .i64 r.tree,.int .i64 r.gen,.int .i64 r.state,.string r.bits] 48)).mono fun _ _ q=>q.elim);have bM:(wr.alloc (.cells #[.slice ra r.par.length J,.int .i64 r.tree,.int .i64 r.gen,.int .i64 r.state,.string r.bits] 48)).heap.size=wr.heap.size+1:=by simp
   have ar:CZ 220 #[pt w2.heap.size,pt M.heap.size,dD ra J r] _ _:=EE aF ra J r _ (aM.turned (d7.alloc (fun _=>False) wr _) fun _ _ q=>q) am aL (fun b q=>.inl (LC q D.o.2.size)) (by omega) (by omega);have aI:=heap_alloc_last wr (.cells #[.slice ra r.par.length J,.int .i64 r.tree,.int .i64 r.gen,.int .i64 r.state,.string r.bits] 48);have aJ:∀W,d7 (fun b=>¬(b<c.heap.size∨(wr.heap.size<=b∧b<(wr.alloc (.cells #[.slice ra r.par.length J,.int .i64 r.tree,.int .i64 r.gen,.int .i64 r.state,.string r.bits] 48)).heap.size))) (wr.alloc (.cells #[.slice ra r.par.length J,.int .i64 r.tree,.int .i64 r.gen,.int .i64 r.state,.string r.bits] 48)) W->W.cell? ⟨wr.heap.size,4,none⟩=some (.string r.bits)∧wr.heap.size<W.heap.size:=fun W t=>by have h1:=(t.block wr.heap.size (by omega) fun q=>q (.inr ⟨LS _,by omega⟩)).trans aI;exact⟨g9 h1 4 _ rfl,i6 h1⟩
   have hT:∀W,d7 (fun b=>¬(b<c.heap.size∨(wr.heap.size<=b∧b<(wr.alloc (.cells #[.slice ra r.par.length J,.int .i64 r.tree,.int .i64 r.gen,.int .i64 r.state,.string r.bits] 48)).heap.size))) (wr.alloc (.cells #[.slice ra r.par.length J,.int .i64 r.tree,.int .i64 r.gen,.int .i64 r.state,.string r.bits] 48)) W->d7 (fun b=>¬b<c.heap.size) d W:=fun W t=>
    (T.o.new _).comp t fun b hb q=>q.elim id fun q z=>q (.inl z)
   have CV:Hid _:=Go.Lib.hid aJ;have HT:Hid _:=Go.Lib.hid hT;have SZ:Hid ((n9 (rows.take j)).N.length<=262144∧r.bits.size<=4096):=⟨by omega,aG⟩;generalize bB:n9 (rows.take j)=K at *;have ST:Hid (n9 (rows.take (j+1))=N8 K r):=au;obtain⟨u,ae⟩:=EX ((K.B++r.bits.data.toList).length);have bu:u<=4198400:=by have:=BL.o;rw[ae,List.length_append];have e:=uH r.bits;omega
   have hm:((u:Nat):Int)% 4294967296=(u:Int):=by omega
   have bk:u<=4194304:=by have:=ab.o.2;rw[au]at ap;rw[ae];exact LR ap this
   have d1:decide ((4194304:Int)<(u:Int))=false:=LD (by omega);have aa:Hid (u=(K.B++r.bits.data.toList).length∧u<=4198400):=⟨ae,bu⟩;clear U am aL Z hE hR hN bA au ap aG aM aJ hT aI aF ae bB bk;unfold dD at ar
   go_wp2_with(first 
    |(go_fit ar;rintro e u2⟨rfl,y,htu⟩;obtain⟨yb,bO⟩:=CV.o u2 htu;have U2:Hid _:=Go.Lib.hid htu;have aV:CZ 149 #[pt v.heap.size,.string r.bits] u2 _:=DZ y r.bits (by have:=BL.o;have:=SZ.o.2;omega);clear y htu ar)
    |(go_fit aV;rintro e u3⟨rfl,y,htu⟩;have U3:Hid _:=Go.Lib.hid (U2.o.tr htu);have aO:CZ 221 #[pt v.heap.size] u3 fun e w'=>e=.returned (.int .i64 u)∧u3=w':=(by rw[aa.o.1];exact uG y 4 (by decide));have aK:CZ 150 #[pt O.heap.size,.int .u32 u] u3 _:=DY y u (by have:=aa.o.2;omega) (by have:=SZ.o.1;omega);clear y htu aV)
    |(go_fit aO;rintro e ux⟨rfl,rfl⟩)
    |(go_fit aK;rintro e u4⟨rfl,y,htu⟩;have U4:Hid _:=Go.Lib.hid (U3.o.tr htu);have bo:Hid _:=Go.Lib.hid y;have bv:CZ 221 #[pt v.heap.size] u4 fun e w'=>e=.returned (.int .i64 u)∧u4=w':=(by rw[aa.o.1];exact uG y 4 (by decide));clear y htu aK aO)
    |(go_fit bv;rintro e ux⟨rfl,rfl⟩))
   go_roundg (gk-1)
   case measure=>have:=G.o;have:=P.o;omega
   case rel=>
    refine⟨j+1,by have:=G.o;have:=P.o;omega,by simp<;>omega,?_,HT.o u4 U4.o⟩;rw[ST.o];show cX u4 _ 5 _ (I0 l (K.R++kI r K.E.length) (K.E++L8 r) (K.N++m9 (K.B++r.bits.data.toList).length 4) (K.B++r.bits.data.toList));rw[<-aa.o.1];exact bo.o.mono fun b q=>.inl q
  ·have hj:rows.take j=rows:=LQ (by have:=P.o;omega);have A:=WS.o;have bt:=ab.o.2;rw[hj]at A;have ay:Hid (EV=s7 CG):=ab.o.1;have Z:∀x∈rows,x.par.length<=16:=fun x hx=>by obtain⟨i,S⟩:=LM hx;exact(GR.o i x S).1.1
   have hE:=kV rows Z;have hR:=kT rows;have hN:=kU rows;have bx:rows.length<=65536:=by have:=C.o;have:=P.o;omega
   have b0:CZ 151 #[pt c.heap.size] wr fun e w'=>e=.returned (.string ⟨l.toArray⟩)∧wr=w':=fW A 0 (by decide)
   have b1:CZ 151 #[pt w2.heap.size] wr fun e w'=>e=.returned (.string ⟨(n9 rows).R.toArray⟩)∧wr=w':=fW A 1 (by decide)
   have b2:CZ 151 #[pt M.heap.size] wr fun e w'=>e=.returned (.string ⟨(n9 rows).E.toArray⟩)∧wr=w':=fW A 2 (by decide)
   have b3:CZ 151 #[pt O.heap.size] wr fun e w'=>e=.returned (.string ⟨(n9 rows).N.toArray⟩)∧wr=w':=fW A 3 (by decide)
   have b4:CZ 151 #[pt v.heap.size] wr fun e w'=>e=.returned (.string ⟨(n9 rows).B.toArray⟩)∧wr=w':=fW A 4 (by decide)
   have bq:l.length<=100:=by rw[HH.o];simp[j6]
   have aH:CZ 222 #[.slice (some ⟨wr.heap.size,0,none⟩) 5 5] (wr.alloc (.cells #[.int .u32 1,.string ⟨l.toArray⟩,.int .u32 2,.string ⟨(n9 rows).R.toArray⟩,.int .u32 3,.string ⟨(n9 rows).E.toArray⟩,.int .u32 4,.string ⟨(n9 rows).N.toArray⟩,.int .u32 5,.string ⟨(n9 rows).B.toArray⟩] 285)) (RT (s7 CG) (wr.alloc (.cells #[.int .u32 1,.string ⟨l.toArray⟩,.int .u32 2,.string ⟨(n9 rows).R.toArray⟩,.int .u32 3,.string ⟨(n9 rows).E.toArray⟩,.int .u32 4,.string ⟨(n9 rows).N.toArray⟩,.int .u32 5,.string ⟨(n9 rows).B.toArray⟩] 285))):=by rw[ax.o];exact xN _ _ _ _ (nV wr ⟨l.toArray⟩ ⟨(n9 rows).R.toArray⟩ ⟨(n9 rows).E.toArray⟩ ⟨(n9 rows).N.toArray⟩ ⟨(n9 rows).B.toArray⟩ ⟨by rw[G6];omega,by rw[G6];omega,by rw[G6];omega,by rw[G6];omega,by rw[G6];omega⟩)
   have ad:∃s e,s7 CG=.tuple #[.string s,.int .i64 e]:=by
    unfold s7;split
    ·exact⟨_,_,rfl⟩
    ·exact⟨_,_,rfl⟩
   obtain⟨bs,be,ad⟩:=ad;rw[ad]at aH ay;clear hj A bt Z hE hR hN bx bq ad ax;generalize(⟨l.toArray⟩:ByteArray)=q0 at *;generalize(⟨(n9 rows).R.toArray⟩:ByteArray)=q1 at *;generalize(⟨(n9 rows).E.toArray⟩:ByteArray)=q2 at *;generalize(⟨(n9 rows).N.toArray⟩:ByteArray)=q3 at *;generalize(⟨(n9 rows).B.toArray⟩:ByteArray)=q4 at *
   go_wp2_with(first
    |(go_fit b0;rintro e v1⟨rfl,rfl⟩)
    |(go_fit b1;rintro e v1⟨rfl,rfl⟩)
    |(go_fit b2;rintro e v1⟨rfl,rfl⟩)
    |(go_fit b3;rintro e v1⟨rfl,rfl⟩)
    |(go_fit b4;rintro e v1⟨rfl,rfl⟩)
    |(go_fit aH;rintro e v2⟨rfl,bC⟩))
   go_ret2;exact⟨by rw[ay.o];rfl,D.o.2.comp (Y.o.comp ((T.o.new _).comp bC (T:=fun b=>¬b<c.heap.size) fun b hb q=>q.elim id fun q=>q.elim) (T:=fun b=>¬b<c.heap.size) fun b hb q=>q.elim (fun q=>q.elim) id) fun b hb q=>q.elim id fun q=>q (LC hb D.o.2.size)⟩
end Go.Proofs.YtofcogekgcgjhaaGreatDoor
namespace Go.Proofs.YtofcogekgcgjhaaGreatDoor
open Go.RowKit Go.Mine Go.Proofs.Tryz
abbrev kW(B X:Nat)(b:Nat):Prop:=B<=b∧b≠X
theorem mg{w:World}{B X:Nat}(a:B<=w.heap.size)(c:X<w.heap.size)(b:Nat)(q:F2 (kW B X) w b):kW B X b:=q.elim id fun q=>⟨LR a q,by omega⟩
theorem BD{B X p:Nat}{bs:List UInt8}(s:ByteArray)(w:World)(h:Wr w (kW B X) p bs)(a:B<=w.heap.size)(c:X<w.heap.size)(b:bs.length+s.size<=1099511627776):
  CZ 149 #[pt p,.string s] w fun e w'=>e=.returned (.tuple #[])∧Wr w' (kW B X) p (bs++s.data.toList)∧d7 (kW B X) w w':=
 (ow s w h b).mono fun _ _ q=>⟨q.1,q.2.1.widen (mg a c),q.2.2⟩
theorem zZ{B X p:Nat}{bs:List UInt8}(v:Nat)(w:World)(h:Wr w (kW B X) p bs)(a:B<=w.heap.size)(c:X<w.heap.size)(d:v<256)(b:bs.length+1<=1099511627776):
  CZ 148 #[pt p,.int .u8 v] w fun e w'=>e=.returned (.tuple #[])∧Wr w' (kW B X) p (bs++m9 v 1)∧d7 (kW B X) w w':=
 (tM v w h d b).mono fun _ _ q=>⟨q.1,q.2.1.widen (mg a c),q.2.2⟩
theorem BE{B X p:Nat}{bs:List UInt8}(v:Nat)(w:World)(h:Wr w (kW B X) p bs)(a:B<=w.heap.size)(c:X<w.heap.size)(d:v<4294967296)(b:bs.length+4<=1099511627776):
  CZ 150 #[pt p,.int .u32 v] w fun e w'=>e=.returned (.tuple #[])∧Wr w' (kW B X) p (bs++m9 v 4)∧d7 (kW B X) w w':=
 (gz v w h d b).mono fun _ _ q=>⟨q.1,q.2.1.widen (mg a c),q.2.2⟩
theorem Wr.box{B p:Nat}{bs:List UInt8}{w:World}(h:Wr w (fun b=>B<=b) p bs)(o:Obj):Wr (w.alloc o) (kW B w.heap.size) p bs:=((fT h).turned (d7.alloc (fun _=>False) w o) fun _ _ q=>q).widen fun b q=>⟨q.1,by have:=q.2;omega⟩
theorem yd{w w':World}{B:Nat}{o:Obj}(a:d7 (kW B w.heap.size) (w.alloc o) w'):w'.heap[w.heap.size]?=some o∧w.heap.size<w'.heap.size:=by
 have b:(w.alloc o).heap.size=w.heap.size+1:=by simp
 exact⟨(a.block _ (by omega) fun q=>q.2 rfl).trans (i8 w o),by have:=a.size;omega⟩
theorem _root_.Go.Mine.d7.nox{B X:Nat}{w w' a:World}(h:d7 (kW B X) w w')(k:d7 (kW B X) w' a):d7 (kW B X) w a:=h.tr k
theorem _root_.Go.Mine.d7.none{S:Nat->Prop}{w w':World}(h:TF w w'):d7 S w w':=h.mono fun _ _ q=>q.elim
end Go.Proofs.YtofcogekgcgjhaaGreatDoor
