/- Packed. -/
import Derived.Test.YtofcogekgcgjhaaGreatDoorZzae
import Derived.Deep.RegionLaw
set_option maxRecDepth 100000
set_option maxHeartbeats 8000000
namespace Go.Proofs.YtofcogekgcgjhaaGreatDoor
open Go.RowKit Go.Mine Tryz
theorem eN(s:ByteArray):byteCells s=o9 s.data.toList:=rfl
theorem ow{S:Nat->Prop}{p:Nat}{bs:List UInt8}(s:ByteArray)(w:World)(h:Wr w S p bs)(B:bs.length+s.size<=1099511627776):
  CZ 149 #[pt p,.string s] w fun e w'=>e=.returned (.tuple #[])∧Wr w' (F2 S w) p (bs++s.data.toList)∧d7 S w w':=by
 obtain⟨n,v,R,c,t,r,m⟩:=h;have H:=g9 c 0 _ rfl;have K:=j7 c 0;have D:=i6 c;have E:s.data.toList.length=s.size:=by rw[Array.length_toList];rfl
 have h1:bs.length+s.size<=maxLen:=by simp[maxLen];omega
 have h2:(bs.length+s.size)*1<=140737488355328:=by omega
 have X:Hid (S p∧(∀b,R b->S b)∧¬R p∧X8 w p #[v] 300):=⟨n,m,r,c⟩;have z:Hid (bs.length+s.size<=maxLen):=h1;have A:Hid ((bs.length+s.size)*1<=140737488355328):=h2;have l:Hid (Sl w R 5 1 v (o9 bs) bs.length):=t;clear n m r c h1 h2 t B;obtain⟨a,cap,x,-,-⟩:=l.o.value;have G:Hid (v=.slice a bs.length cap):=x;clear x;go_enter func149,ntmps149;go_wp2_with(at_builtin;refine m7 rfl _ _ 83 9 rfl l.o underlying83 info5 rfl (by decide) rfl (.string s) rfl (Src.ofString w underlying9 s) z.o A.o ?_;intro L d k u;obtain⟨f,g,F,-,-⟩:=k.value;subst F;have j:X8 d p #[v] 300:=X.o.2.2.2.turned u X.o.2.2.1;have I:=g9 j 0 _ rfl;have J:=j7 j 0);go_end0;have y:d7 (· =p) d (d.setCell ⟨p,0,none⟩ (.slice f (bs.length+s.size) g)):=d7.setCell (S:=(· =p)) (p:=⟨p,0,none⟩) rfl _;have C:X8 (d.setCell ⟨p,0,none⟩ (.slice f (bs.length+s.size) g)) p #[.slice f (bs.length+s.size) g] 300:=j8 j _;rw[eN,<-E]at k;have:=Wr.put X.o.1 X.o.2.1 X.o.2.2.1 D k (u.comp y fun i _ q=>q.elim (X.o.2.1 i) fun q=>q▸X.o.1) y C;exact⟨rfl,this⟩
theorem Bj(P:Program)(v k:Nat)(a:k<8)(w:World):(Op.shift .shr .u64 (v:Int) .i64 (8*(k:Int))).run P w=.ok (.int .u64 ((v / 256^k:Nat):Int)) w:=by
 have h1:¬(8*(k:Int)<0):=by omega
 have h2:min (8*(k:Int)).toNat IntKind.u64.bits=8*k:=by have:IntKind.u64.bits=64:=rfl;rw[this];omega
 unfold Op.shift;rw[if_neg h1,h2];have h3:(v:Int).fdiv (2^(8*k))=((v / 256^k:Nat):Int):=by
  rw[show(256:Nat)=2^8 from rfl,<-Nat.pow_mul];rw[Int.fdiv_eq_ediv_of_nonneg _ (Int.pow_nonneg (by decide))]
  push_cast
  rfl
 simp only[h3];rfl
def ze(w:World)(S:Nat->Prop)(p v n:Nat)(bs:List UInt8)(g:Nat)(i:Value)(wr:World):Prop:=∃a:List UInt8,g<=n∧i=.int .i64 ((g:Int)-1)∧m9 v n=a++m9 v g∧Wr wr (F2 S w) p (bs++a)∧d7 S w wr
theorem jo{S:Nat->Prop}{p:Nat}{bs:List UInt8}(v n:Nat)(w:World)(h:Wr w S p bs)(N:v<18446744073709551616)(hn:n<=8)(z:bs.length+n<=1099511627776):
  CZ 234 #[pt p,.int .u64 v,.int .i64 n] w fun e w'=>e=.returned (.tuple #[])∧Wr w' (F2 S w) p (bs++m9 v n)∧d7 S w w':=by
 have W:Hid (ze w S p v n bs n (.int .i64 ((n:Int)-1)) w):=⟨[],LS _,rfl,rfl,by rw[List.append_nil];exact h.widen fun _ q=>.inl q,TQ⟩;have Z:Hid (v<18446744073709551616∧bs.length+n<=1099511627776):=⟨N,z⟩;clear h N z;go_enter func234,ntmps234;go_wp2;go_loopg[2] n (fun g i wr=>ze w S p v n bs g i wr)
 case atStart=>exact W.o
 case round=>
  obtain⟨c,hg,rfl,E,s,J⟩:=hrel;have F:Hid (m9 v n=c++m9 v gk∧d7 S w wr):=⟨E,J⟩;clear E J;rcases Nat.eq_zero_or_pos gk with rfl|al
  ·have hd:decide ((0:Int)<=((0:Nat):Int)-1)=false:=by decide
   have X:Hid (Wr wr (F2 S w) p (bs++c)):=s;clear s;go_wp2;go_end0;have ad:m9 v n=c:=by have:=F.o.1;rwa[m9,List.append_nil]at this
   rw[ad];exact⟨rfl,X.o,F.o.2⟩
  ·obtain⟨k,rfl⟩:∃k,gk=k+1:=⟨gk-1,by omega⟩;obtain⟨G,sv,R,f,hsl,H,B⟩:=s;have hc:=g9 f 0 _ rfl;have aj:=j7 f 0;have ac:=i6 f;obtain⟨a,cap,rfl,-,-⟩:=hsl.value;have ab:(bs++c).length+1<=1099511627776:=by have h1:=congrArg List.length F.o.1;rw[j6,List.length_append,j6]at h1;have:=Z.o.2;rw[List.length_append];omega
   have h1:Hid ((bs++c).length+1<=maxLen):=(by simp only[maxLen];omega:(bs++c).length+1<=maxLen);have h2:Hid (((bs++c).length+1)*1<=140737488355328):=(by omega:((bs++c).length+1)*1<=140737488355328);have X:Hid (F2 S w p∧(∀b,R b->F2 S w b)∧¬R p∧X8 wr p #[.slice a (bs++c).length cap] 300∧Sl wr R 5 1 (.slice a (bs++c).length cap) (o9 (bs++c)) (bs++c).length):=⟨G,B,H,f,hsl⟩;clear G B H f hsl ab;generalize A:(bs++c).length=L at *;have Q:Hid ((bs++c).length=L):=A;clear A;have D:((k+1:Nat):Int)-1=k:=by omega
   have ak:=World.new_ne wr ⟨p,0,none⟩ hc;rw[D];clear D;have ao:IntKind.i64.wrap (8*(k:Int))=8*k:=by rw[IntKind.wrap_i64];omega
   have an:=Bj prog v k (by omega);have Y:Hid (k<8):=(by omega:k<8);have C:IntKind.u8.wrap ((v:Int) / 2^(8*(k:Int)).toNat)=((UInt8.ofNat (v / 256^k)).toNat:Nat):=by
    have h8:(8*(k:Int)).toNat=8*k:=by omega
    rw[IntKind.wrap_u8,h8];have:(UInt8.ofNat (v / 256^k)).toNat=v / 256^k% 256:=by simp
    rw[this,show(256:Nat)=2^8 from rfl,<-Nat.pow_mul]
    push_cast
    rfl
   have HX:Hid (IntKind.u8.wrap ((v:Int) / 2^(8*(k:Int)).toNat)=((UInt8.ofNat (v / 256^k)).toNat:Nat)):=C;clear C;have U:Hid (Sl ((wr.alloc (.cells #[.int .u8 (IntKind.u8.wrap ((v:Int) / 2^(8*(k:Int)).toNat))] 5)).drew) R 5 1 (.slice a L cap) (o9 (bs++c)) L):=(X.o.2.2.2.2.turned (d7.alloc (fun _=>False) _ _) (fun _ _ q=>q)).drew;have V:Hid (Src prog 1 83 (.slice (some ⟨wr.heap.size,0,none⟩) 1 1) 1 [.int .u8 (IntKind.u8.wrap ((v:Int) / 2^(8*(k:Int)).toNat))] ((wr.alloc (.cells #[.int .u8 (IntKind.u8.wrap ((v:Int) / 2^(8*(k:Int)).toNat))] 5)).drew)):=by
    refine Src.ofSlice _ underlying83 ⟨wr.heap.size,0,none⟩ 1 1 _ rfl (fun j u t=>?_) (fun u M=>?_)
    ·rcases j with _|j
     ·simp at t;subst t;exact g9 (heap_alloc_last wr _) 0 _ rfl
     ·simp at t
    ·simp at M;subst M;rfl
   go_wp2;go_region_law ((refine o5 (by rfl) _ _ 83 83 (by rfl) U.o underlying83 info5 rfl (by decide) (by rfl) (.slice (some ⟨wr.heap.size,0,none⟩) 1 1) (by rfl) V.o h1.o h2.o ?_;intro v' d x K;obtain⟨l,m,af,-,-⟩:=x.value;subst af;have y:=(d7.alloc (fun b=>R b) wr (.cells #[.int .u8 (IntKind.u8.wrap ((v:Int) / 2^(8*(k:Int)).toNat))] 5)).tr ((d7.drew (fun b=>R b) _).trans K fun _ _ q=>q);have r:X8 d p #[.slice a L cap] 300:=X8.turned (w:=wr) X.o.2.2.2.1 y X.o.2.2.1;have ai:=j7 r 0;have ah:=g9 r 0 _ rfl;have T:Hid (Sl d _ 5 1 _ _ (L+1)∧d7 _ wr d∧X8 d p _ 300):=⟨x,y,r⟩;clear x K y r))
   all_goals go_wp2
   all_goals
    go_roundg k
    case measure=>omega
    case rel=>
     obtain⟨O,q2,q3⟩:=T.o;have ae:(wr.alloc (.cells #[.int .u8 (IntKind.u8.wrap ((v:Int) / 2^(8*(k:Int)).toNat))] 5)).drew.heap.size=wr.heap.size+1:=by simp
     have P:d7 (· =p) d (d.setCell ⟨p,0,none⟩ (.slice l (L+1) m)):=d7.setCell (S:=(· =p)) (p:=⟨p,0,none⟩) rfl _;have aa:X8 (d.setCell ⟨p,0,none⟩ (.slice l (L+1) m)) p #[.slice l (L+1) m] 300:=j8 q3 _;rw[HX.o]at O ae;have ag:Sl d (F2 R wr) 5 1 (.slice l (L+1) m) (o9 (bs++c)++o9 [UInt8.ofNat (v / 256^k)]) ((bs++c).length+[UInt8.ofNat (v / 256^k)].length):=by rw[Q.o];exact O.widen fun b q=>q.elim .inl fun q=>.inr (by omega)
     have I:=Wr.put X.o.1 X.o.2.1 X.o.2.2.1 ac ag (q2.comp P fun i _ q=>q.elim (X.o.2.1 i) fun q=>q▸X.o.1) P aa;have am:=F.o.2.size;refine⟨c++[UInt8.ofNat (v / 256^k)],by omega,rfl,?_,?_,F.o.2.trans I.2 fun i hi q=>q.elim id fun q=>by omega⟩
     ·rw[F.o.1,m9,List.append_assoc];rfl
     ·rw[<-List.append_assoc];exact I.1.widen fun b q=>q.elim id fun q=>.inr (by omega)
theorem L9(w:World):CZ 145 #[] w fun e w'=>e=.returned (pt w.heap.size)∧Wr w' (fun b=>w.heap.size<=b) w.heap.size []∧TF w w'∧w'.heap.size=w.heap.size+1:=by go_enter func145,ntmps145;go_wp2;go_ret;refine⟨rfl,⟨LS _,.slice none 0 0,fun _=>False,?_,Sl.nil _ _ _ _,fun q=>q,fun _ q=>q.elim⟩,TA,by simp⟩;exact heap_alloc_last w _
theorem tM{S:Nat->Prop}{p:Nat}{bs:List UInt8}(v:Nat)(w:World)(h:Wr w S p bs)(d:v<256)(a:bs.length+1<=1099511627776):
  CZ 148 #[pt p,.int .u8 v] w fun e w'=>e=.returned (.tuple #[])∧Wr w' (F2 S w) p (bs++m9 v 1)∧d7 S w w':=by
 have b:CZ 234 #[pt p,.int .u64 v,.int .i64 1] w fun e w'=>e=.returned (.tuple #[])∧Wr w' (F2 S w) p (bs++m9 v 1)∧d7 S w w':=jo v 1 w h (by omega) (by omega) a
 have g:((v:Int)% 18446744073709551616)=v:=by omega
 clear h d a;go_enter func148,ntmps148;go_wp2_with(go_fit b;rintro e w2⟨rfl,f,c⟩);go_end0;exact⟨rfl,f,c⟩
theorem gz{S:Nat->Prop}{p:Nat}{bs:List UInt8}(v:Nat)(w:World)(h:Wr w S p bs)(d:v<4294967296)(a:bs.length+4<=1099511627776):
  CZ 150 #[pt p,.int .u32 v] w fun e w'=>e=.returned (.tuple #[])∧Wr w' (F2 S w) p (bs++m9 v 4)∧d7 S w w':=by
 have b:CZ 234 #[pt p,.int .u64 v,.int .i64 4] w fun e w'=>e=.returned (.tuple #[])∧Wr w' (F2 S w) p (bs++m9 v 4)∧d7 S w w':=jo v 4 w h (by omega) (by omega) a
 have g:((v:Int)% 18446744073709551616)=v:=by omega
 clear h d a;go_enter func150,ntmps150;go_wp2_with(go_fit b;rintro e w2⟨rfl,f,c⟩);go_end0;exact⟨rfl,f,c⟩
theorem dJ{w:World}{R:Nat->Prop}{v:Value}{bs:List UInt8}(h:Sl w R 5 1 v (o9 bs) bs.length):(convert 83 9 v).run prog w=.ok (.string ⟨bs.toArray⟩) w:=by
 rcases h.2 with⟨rfl,d⟩|⟨g,off,cap,a,rfl,-,b,k,f,i,e⟩
 ·have:bs=[]:=LO d;subst this;exact run_convert_bytes_nil w 83 5 underlying83 underlying5 0 0 9 underlying9
 ·refine run_convert_bytes_back (P:=prog) w 83 9 5 ⟨g,off,none⟩ cap bs underlying83 underlying5 underlying9 fun j c=>?_
  rw[Addr.add_lit,cell_of_row _ _ _ _ _ _ b];have h1:((a.toList.drop off).take (bs.length*1))[j]?=some (.int .u8 (bs[j].toNat:Nat)):=by rw[e];simp[o9,c]
  rw[List.getElem?_take,if_pos (by omega),List.getElem?_drop]at h1;simpa using h1
theorem O3{S:Nat->Prop}{p:Nat}{bs:List UInt8}(w:World)(h:Wr w S p bs):
  CZ 151 #[pt p] w fun e w'=>e=.returned (.string ⟨bs.toArray⟩)∧w=w':=by
 obtain⟨d,v,R,a,b,f,c⟩:=h;have i:=g9 a 0 _ rfl;have j:=i6 a;have g:=dJ b;clear d f c a b;go_enter func151,ntmps151;go_wp2;go_ret;exact⟨rfl,rfl⟩
end Go.Proofs.YtofcogekgcgjhaaGreatDoor
namespace Go.Proofs.YtofcogekgcgjhaaGreatDoor.Ch
open Go.RowKit Go.Mine Tryz
abbrev Ln:=Int×Int×Nat
abbrev EP(x:Ln):Value:=.agg #[.int .i64 x.1,.int .i64 x.2.1,.int .u32 x.2.2]
def eO(n:Int):Prop:=-9223372036854775808<=n∧n<=9223372036854775807
def S7(w:World)(a:Option Addr)(cap:Nat)(l:List Ln):Prop:=l.length<=cap∧cap<=maxLen∧(∀x∈l,eO x.1∧eO x.2.1∧x.2.2<4294967296)∧(0<l.length->∃b off,a=some ⟨b,off,none⟩∧b<w.heap.size∧∀i x,l[i]?=some x->w.cell? ⟨b,off+i*3,none⟩=some (.int .i64 x.1)∧w.cell? ⟨b,off+i*3+1,none⟩=some (.int .i64 x.2.1)∧w.cell? ⟨b,off+i*3+2,none⟩=some (.int .u32 x.2.2))
theorem S7.turned{w w':World}{a:Option Addr}{cap:Nat}{l:List Ln}(h:S7 w a cap l)(d:TF w w'):S7 w' a cap l:=by
 refine⟨h.1,h.2.1,h.2.2.1,fun e=>?_⟩;obtain⟨b,off,h1,h2,h3⟩:=h.2.2.2 e;refine⟨b,off,h1,LC h2 d.size,fun i x f=>?_⟩;have c:=fun o=>World.cell?_of_block (w:=w) (w':=w') (a:=⟨b,o,none⟩) (d.block b h2 fun q=>q)
 rw[c,c,c];exact h3 i x f
theorem M8{w:World}{a:Option Addr}{cap:Nat}{l:List Ln}(h:S7 w a cap l)(j:Nat)(x:Ln)(hx:l[j]?=some x):
  ∃b off,a=some ⟨b,off,none⟩∧b<w.heap.size∧w.cell? ⟨b,off+j*3,none⟩=some (.int .i64 x.1)∧w.cell? ⟨b,off+j*3+1,none⟩=some (.int .i64 x.2.1)∧w.cell? ⟨b,off+j*3+2,none⟩=some (.int .u32 x.2.2):=by
 have c:=(LA.1 hx).1;obtain⟨b,off,h1,h2,h3⟩:=h.2.2.2 (by omega);exact⟨b,off,h1,h2,h3 j x hx⟩
def cO(n:Int):Bool:=decide (0<=n) && decide (n<=1073741824)
theorem cP(n:Int)(w:World):CZ 212 #[.int .i64 n] w fun e w'=>e=.returned (.bool (cO n))∧w=w':=by
 unfold cO;by_cases h:0<=n
 ·have a:decide (0<=n)=true:=by simp[h]
  rw[a,Bool.true_and];go_enter func212,ntmps212;go_wp2;go_ret;exact⟨rfl,rfl⟩
 ·have a:decide (0<=n)=false:=by simp[h]
  rw[a,Bool.false_and];go_enter func212,ntmps212;go_wp2;go_ret;exact⟨rfl,rfl⟩
theorem xm(x d:Ln)(p:Nat)(w:World)(hx:w.cell? ⟨p,0,none⟩=some (.int .i64 d.1)):
  CZ 213 #[EP x,pt p] w (RT (.bool (x.1==d.1)) w):=by
 have a:=n7 hx;go_enter func213,ntmps213;go_wp2;go_ret;exact⟨by rfl,TA⟩
def H2(l:List Ln)(n:Int):Bool:=l.any (fun x=>x.1==n)
def kQ(w:World)(l:List Ln)(n:Int)(g:Nat)(i:Value)(wr:World):Prop:=∃j:Nat,j+g=l.length∧i=.int .i64 j∧(∀t d,t<j->l[t]?=some d->d.1≠n)∧TF w wr
def qA(w:World)(l:List Ln)(n:Int)(e:Ending)(w':World):Prop:=TF w w'∧((H2 l n=false∧e=.returned (.int .i64 (-1)))∨(H2 l n=true∧∃j:Nat,e=.returned (.int .i64 j)))
theorem tN(a:Option Addr)(cap p:Nat)(l:List Ln)(d:Ln)(w:World)(h:S7 w a cap l)(hx:w.cell? ⟨p,0,none⟩=some (.int .i64 d.1)):
  CZ 230 #[.slice a l.length cap,.func (.func 213) #[] #[pt p]] w (qA w l d.1):=by
 have F:Hid (S7 w a cap l):=h;have A:Hid (w.cell? ⟨p,0,none⟩=some (.int .i64 d.1)):=hx;obtain⟨L,r⟩:=EX l.length;have m:Hid (L=l.length):=r;rw[<-r];have H:Hid (L<=9223372036854775807):=(by rw[r];have:=h.1;have:=h.2.1;simp only[maxLen]at this;omega:L<=9223372036854775807);clear h r hx;go_enter func230,ntmps230;go_wp2;have z:Hid (kQ w l d.1 L (.int .i64 0) w):=⟨0,by rw[m.o,Nat.zero_add],rfl,fun t d f=>by omega,TQ⟩;go_loopg[8] L (fun g i wr=>kQ w l d.1 g i wr)
 case atStart=>exact z.o
 case round=>
  obtain⟨j,B,rfl,D,f⟩:=hrel;have N:Hid (∀t e,t<j->l[t]?=some e->e.1≠d.1):=D;have T:Hid (TF w wr):=f;have y:Hid (j+gk=l.length):=B;clear D f B z;by_cases I:j<L
  ·obtain⟨c,n⟩:∃c,l[j]?=some c:=⟨_,LB (by rw[<-m.o];exact I)⟩;obtain⟨b,off,rfl,O,J,K,M⟩:=M8 (F.o.turned T.o) j c n;have E:wrap64 ((j:Int)+1)=((j+1:Nat):Int):=by have:=H.o;simp[wrap64];omega
   have G:Hid (wrap64 ((j:Int)+1)=((j+1:Nat):Int)):=E;have C:Hid (l[j]?=some c):=n;have s:CZ 213 #[EP c,pt p] wr (RT (.bool (c.1==d.1)) wr):=xm c d p wr (by rw[World.cell?_of_block (w':=wr) (T.o.block p (n7 A.o) fun q=>q)];exact A.o);clear n E;by_cases k:c.1=d.1
   ·rw[show(c.1==d.1)=true by simp[k]]at s;have u:Hid (c.1=d.1):=k;clear k;go_wp2_with(go_fit s;rintro e w2⟨rfl,x⟩);go_ret;refine⟨T.o.tr x,.inr ⟨?_,j,rfl⟩⟩;unfold H2;rw[List.any_eq_true];exact⟨c,LI C.o,by simpa using u.o⟩
   ·rw[show(c.1==d.1)=false by simp[k]]at s;have u:Hid (c.1≠d.1):=k;clear k;go_wp2_with(go_fit s;rintro e w2⟨rfl,x⟩);go_roundg (gk-1)
    case measure=>have:=y.o;have:=m.o;omega
    case rel=>
     refine⟨j+1,by have:=y.o;have:=m.o;omega,by rw[G.o],fun t e f v=>?_,T.o.tr x⟩;rcases Nat.lt_or_eq_of_le (Nat.le_of_lt_succ f)with q|q
     ·exact N.o t e q v
     ·rw[q,C.o]at v;obtain rfl:=Option.some.inj v;exact u.o
  ·go_wp2;go_ret;refine⟨T.o,.inl ⟨?_,rfl⟩⟩;unfold H2;rw[List.any_eq_false];intro c n;obtain⟨t,f⟩:=LM n;have:=(LA.1 f).1;simpa using N.o t c (by have:=m.o;omega) f
theorem mS(a:Option Addr)(cap p:Nat)(l:List Ln)(d:Ln)(w:World)(h:S7 w a cap l)(hx:w.cell? ⟨p,0,none⟩=some (.int .i64 d.1)):
  CZ 139 #[.slice a l.length cap,.func (.func 213) #[] #[pt p]] w (RT (.bool (H2 l d.1)) w):=by
 have g:=tN a cap p l d w h hx;clear h hx;generalize c:H2 l d.1=b;have B:Hid (H2 l d.1=b):=c;clear c;go_enter func139,ntmps139;go_wp2_with fail;refine g.mono ?_;rintro e k⟨f,⟨h1,rfl⟩|⟨h1,j,rfl⟩⟩
 ·rw[B.o]at h1;subst h1;go_wp2;go_ret;exact⟨rfl,f⟩
 ·rw[B.o]at h1;subst h1;have i:decide ((0:Int)<=(j:Int))=true:=by simp
  go_wp2;go_ret;exact⟨rfl,f⟩
def totLn:List Ln->Int
 | []=>0
 |x::l=>x.2.1+totLn l
theorem cQ(a b:List Ln):totLn (a++b)=totLn a+totLn b:=by
 induction a with|nil=>simp[totLn]|cons x a c=>simp only[List.cons_append,totLn,c];omega
def zf(w:World)(l:List Ln)(g:Nat)(n i:Value)(wr:World):Prop:=∃j:Nat,j+g=l.length∧i=.int .i64 j∧n=.int .i64 (totLn (l.take j))∧TF w wr
theorem nt(a:Option Addr)(cap:Nat)(l:List Ln)(w:World)(h:S7 w a cap l)(p:∀j,eO (totLn (l.take j)))(z:l.length<=100000):
  CZ 58 #[.slice a l.length cap] w (RT (.int .i64 (totLn l)) w):=by
 have t:Hid (S7 w a cap l):=h;have u:Hid (∀j,eO (totLn (l.take j))):=p;obtain⟨L,f⟩:=EX l.length;have d:Hid (L=l.length∧L<=100000):=⟨f,by omega⟩;rw[<-f];clear h p f z;go_enter func58,ntmps58;go_wp2;go_loopg[3,8] L (fun g n i wr=>zf w l g n i wr)
 case atStart=>exact⟨0,by have:=d.o.1;omega,rfl,rfl,TQ⟩
 case round=>
  obtain⟨j,q,rfl,rfl,r⟩:=hrel;have T:Hid (TF w wr):=r;have e:Hid (j+gk=l.length):=q;clear r q;by_cases A:j<L
  ·obtain⟨c,m⟩:∃c,l[j]?=some c:=⟨_,LB (by rw[<-d.o.1];exact A)⟩;obtain⟨b,off,rfl,E,B,C,D⟩:=M8 (t.o.turned T.o) j c m;have s:totLn (l.take (j+1))=totLn (l.take j)+c.2.1:=by rw[List.take_add_one,m,cQ];simp[totLn]
   have k:=u.o (j+1);have x:Hid (wrap64 (totLn (l.take j)+c.2.1)=totLn (l.take (j+1))):=by
    have:wrap64 (totLn (l.take j)+c.2.1)=totLn (l.take (j+1)):=by rw[s]at k ⊢;unfold eO at k;simp only[wrap64];omega
    exact this
   clear m s k;generalize totLn (l.take j)=n at *;go_wp2;go_roundg (gk-1)
   case measure=>have:=e.o;have:=d.o;omega
   case rel=>exact⟨j+1,by have:=e.o;have:=d.o;omega,by have:=d.o;simp[wrap64];omega,by rw[x.o],T.o.new _⟩
  ·have y:j=L:=by have:=e.o;have:=d.o;omega
   subst y;have v:Hid (l.take j=l):=LQ (by have:=d.o.1;omega);go_wp2;go_ret;exact⟨by rw[v.o];rfl,T.o⟩
end Go.Proofs.YtofcogekgcgjhaaGreatDoor.Ch
namespace Go.Proofs.YtofcogekgcgjhaaGreatDoor
open Go.RowKit Go.Mine Tryz
def EZ(w:World)(p:Nat)(s:ByteArray)(st:Nat×Nat):Prop:=X8 w p #[.string s,.int .i64 st.1,.int .i64 st.2] 264
theorem Co(m:ByteArray)(bs:List UInt8)(h:m≠⟨bs.toArray⟩):(m.toList==bs)=false:=by rw[ByteArray.toList_eq];simp only[beq_eq_false_iff_ne,ne_eq];intro q;exact h (by rw[<-q])
theorem jp(m k:ByteArray)(h:m≠k):(m.toList==k.toList)=false:=by rw[ByteArray.toList_eq,ByteArray.toList_eq];simp only[beq_eq_false_iff_ne,ne_eq];intro q;exact h (ByteArray.ext (Array.toList_inj.1 q))
def di(t m:ByteArray):Nat:=if t.size<10 then 2 else if t.extract 0 5≠m then 3 else if J9 (t.extract 0 (t.size-4))≠t then 4 else 0
theorem tO(t m:ByteArray)(w:World)(b:t.size<=4611686018427387904):CZ 268 #[.string t,.string m] w (RT (.int .i64 (di t m:Nat)) w):=by
 by_cases h2:t.size<10
 ·have i:decide ((t.size:Int)<10)=true:=by simp;omega
  have j:decide (t.size<10)=true:=by simp;omega
  have a:Hid (di t m=2):=by
   have:di t m=2:=by unfold di;rw[if_pos h2]
   exact this
  rw[a.o];clear b h2;go_enter func268,ntmps268;go_wp2;go_ret;exact⟨rfl,TQ⟩
 have i:decide ((t.size:Int)<10)=false:=by simp;omega
 have j:decide (t.size<10)=false:=by simp;omega
 have c:wrap64 ((t.size:Int)-4)=((t.size-4:Nat):Int):=by simp[wrap64];omega
 have l:∀W,(Instr.slice 9 (.string t) none (some (.int .i64 5)) none).run prog W=.ok (.string (t.extract 0 5)) W:=fun W=>by have:=run_slice_string_h (P:=prog) W 9 t underlying9 .i64 5 (by omega) (by omega);exact this
 by_cases h3:t.extract 0 5=m
 ·rw[h3]at l;have p:∀W,(Instr.slice 9 (.string t) none (some (.int .i64 (wrap64 ((t.size:Int)-4)))) none).run prog W=.ok (.string (t.extract 0 (t.size-4))) W:=fun W=>by rw[c];have:=run_slice_string_h (P:=prog) W 9 t underlying9 .i64 ((t.size-4:Nat):Int) (by omega) (by omega);rw[Int.toNat_natCast]at this;exact this
  have g:(t.extract 0 (t.size-4)).size<=4611686018427387904:=by rw[ByteArray.size_extract];omega
  have d:=gY (t.extract 0 (t.size-4)) w g;by_cases h4:J9 (t.extract 0 (t.size-4))=t
  ·have a:Hid (di t m=0):=by
    have:di t m=0:=by unfold di;rw[if_neg h2,if_neg (by simp[h3]),if_neg (by simp[h4])]
    exact this
   rw[a.o];rw[h4]at d;generalize t.extract 0 (t.size-4)=h at *;clear b h2 h3 h4 c g;go_enter func268,ntmps268;go_wp2_with(go_fit d;rintro e n⟨rfl,f⟩);go_ret;exact⟨rfl,f⟩
  ·have a:Hid (di t m=4):=by
    have:di t m=4:=by unfold di;rw[if_neg h2,if_neg (by simp[h3]),if_pos h4]
    exact this
   rw[a.o];have k:=jp _ _ h4;generalize J9 (t.extract 0 (t.size-4))=q at *;generalize t.extract 0 (t.size-4)=h at *;clear b h2 h3 h4 c g;go_enter func268,ntmps268;go_wp2_with(go_fit d;rintro e n⟨rfl,f⟩);go_ret;exact⟨rfl,f⟩
 ·have a:Hid (di t m=3):=by
   have:di t m=3:=by unfold di;rw[if_neg h2,if_pos h3]
   exact this
  rw[a.o];have k:=jp _ _ h3;generalize t.extract 0 5=h at *;clear b h2 h3 c;go_enter func268,ntmps268;go_wp2;go_ret;exact⟨rfl,TQ⟩
end Go.Proofs.YtofcogekgcgjhaaGreatDoor
namespace Go.Mine.Ac
open Go.Mine
structure I2 where
 h:Int
 p:Int
 m:Int
 seed:Nat
def n0(s:I2):Prop:=1<=s.h∧s.h<=16∧1<=s.p∧s.p<=64∧0<=s.m∧s.m<=512
instance(s:I2):Decidable (n0 s):=by unfold n0;infer_instance
def J6(h:Nat)(b:UInt8):Nat:=(h^^^b.toNat)*16777619% 4294967296
def ox(h:Nat):Nat:=
 let h1:=(h^^^(h>>>16))*2246822507% 4294967296
 let h2:=(h1^^^(h1>>>13))*3266489909% 4294967296
 h2^^^(h2>>>16)
def eo(seed:Nat)(path:ByteArray):Nat:=ox (path.data.toList.foldl J6 (2166136261^^^seed))
def G4(s:I2)(path:ByteArray)(n i:Nat):Nat:=(eo s.seed path+i*(eo ((s.seed+1)% 4294967296) path |||1))% 4294967296% n
def o0(s:I2)(path:ByteArray)(n:Nat):List Nat:=if n0 s∧1<=n∧n<=4294967295 then(List.range s.h.toNat).map (G4 s path n)else []
def once:List ByteArray->List ByteArray
 | []=>[]
 |x::l=>if l.any (fun y=>decide (y=x))=true then once l else x::once l
def vW(n:Nat)(P:Nat->Bool):ByteArray:=⟨((List.range n).map fun j=>UInt8.ofNat ((List.range 8).foldl (fun v k=>if P (8*j+k)then v+2^k else v) 0)).toArray⟩
def ep(s:I2)(k:Nat):Nat:=max 1 ((k*s.p.toNat+7) / 8)
structure AY where
 state:Int
 bits:ByteArray
def H3(s:I2)(b:List ByteArray):AY:=
 let a:=once b
 if s.m.toNat<a.length then⟨2,⟨#[]⟩⟩
 else⟨1,vW (ep s a.length) fun j=>a.any fun x=>decide (j∈o0 s x (8*ep s a.length))⟩
def diffP:List Ent->List Ent->List ByteArray
 | [],b=>b.map (·.1)
 |x::a,[]=>(x::a).map (·.1)
 |x::a,y::b=>
  if ei x.1 y.1 then x.1::diffP a (y::b)
  else if ei y.1 x.1 then y.1::diffP (x::a) b
  else if x.2=y.2 then diffP a b else x.1::diffP a b
termination_by a b=>a.length+b.length
def tE(s:I2)(old a:List Ent):AY:=H3 s (diffP old a)
def U5(b:ByteArray)(j:Nat):Bool:=((b.data.toList[j / 8]?.getD 0).toNat>>>(j% 8))% 2=1
def U6(s:I2)(f:AY)(path:ByteArray):Bool:=f.state≠1 ||(o0 s path (8*f.bits.size)).all fun j=>U5 f.bits j
def counted(n:Int):Int:=if 1023<n then 1024 else max n 1
def X0(l:List Int):Int:=
 let h:=l.foldl (fun h p=>max h (counted p)) 0
 if 1023<=h then h else h+1
end Go.Mine.Ac
namespace Go.Proofs.YtofcogekgcgjhaaGreatDoor
open Go.RowKit Go.Mine Tryz
abbrev Ch:=Nat×ByteArray
def dU(w:World)(a:Option Addr)(cap:Nat)(l:List Ch):Prop:=l.length<=cap∧cap<=maxLen∧(∀c∈l,c.1<4294967296∧c.2.size<=140737488355328)∧(0<l.length->∃b off,a=some ⟨b,off,none⟩∧b<w.heap.size∧∀i c,l[i]?=some c->w.cell? ⟨b,off+i*2,none⟩=some (.int .u32 c.1)∧w.cell? ⟨b,off+i*2+1,none⟩=some (.string c.2))
theorem dU.turned{w w':World}{a:Option Addr}{cap:Nat}{l:List Ch}(h:dU w a cap l)(d:TF w w'):dU w' a cap l:=by refine⟨h.1,h.2.1,h.2.2.1,fun e=>?_⟩;obtain⟨b,off,h1,h2,h3⟩:=h.2.2.2 e;refine⟨b,off,h1,LC h2 d.size,fun i c f=>?_⟩;rw[World.cell?_of_block (w':=w') (d.block b h2 fun q=>q),World.cell?_of_block (w':=w') (d.block b h2 fun q=>q)];exact h3 i c f
def hJ(a b:Nat):Int:=if a<b then-1 else if b<a then 1 else 0
theorem Bk(a:Nat)(w:World):CZ 333 #[.int .u32 a] w fun e w'=>e=.returned (.bool false)∧w=w':=by go_enter func333,ntmps333;go_wp2;go_ret;exact⟨rfl,rfl⟩
theorem qB(a b:Nat)(w:World):CZ 302 #[.int .u32 a,.int .u32 b] w fun e w'=>e=.returned (.int .i64 (hJ a b))∧w=w':=by
 have f:=fun c=>Bk c w
 rcases Nat.lt_trichotomy a b with h|h|h
 ·have d:hJ a b= -1:=by simp[hJ,h]
  rw[d];clear d;go_enter func302,ntmps302;go_wp2_with(go_fit(f _);rintro e w'⟨rfl,rfl⟩);go_ret;exact⟨rfl,rfl⟩
 ·subst h;have d:hJ a a=0:=by simp[hJ]
  rw[d];clear d;go_enter func302,ntmps302;go_wp2_with(go_fit(f _);rintro e w'⟨rfl,rfl⟩);go_ret;exact⟨rfl,rfl⟩
 ·have d:hJ a b=1:=by simp[hJ,h];omega
  have h2:¬a<b:=by omega
  rw[d];clear d;go_enter func302,ntmps302;go_wp2_with(go_fit(f _);rintro e w'⟨rfl,rfl⟩);go_ret;exact⟨rfl,rfl⟩
end Go.Proofs.YtofcogekgcgjhaaGreatDoor
namespace Go.Proofs.YtofcogekgcgjhaaGreatDoor.Ch
open Go.RowKit Go.Mine Tryz
theorem info43:(prog.info? 120).map (fun i=>(i.zero,i.size,i.bytes))=some (some (.agg #[.int .i64 0,.int .i64 0,.int .u32 0]),3,24):=by kernel_rfl
def fL(x:Ln):Bool:=!cO x.1 ||decide (x.2.1<1) ||decide (65536<x.2.1)
def chkLn:List Ln->List Ln->Nat
 |_,[]=>0
 |a,x::r=>if fL x=true then 1 else if H2 a x.1=true then 11 else if 65536<totLn (a++[x])then 1 else chkLn (a++[x]) r
def G1(l:List Ln):Nat:=if 8<l.length then 5 else chkLn [] l
theorem jq(l:List Ln)(h:∀x∈l,1<=x.2.1∧x.2.1<=65536):0<=totLn l∧totLn l<=65536*l.length:=by
 induction l with
 |nil=>simp[totLn]
 |cons x l b=>
  have h1:=h x (by simp);have h2:=b fun y a=>h y (LP _ a)
  simp only[totLn,List.length_cons];omega
theorem DJ{w:World}{a:Option Addr}{cap:Nat}{l:List Ln}(h:S7 w a cap l)(j:Nat)(d:j<=l.length)(W:World):
  (Instr.slice 113 (.slice a l.length cap) none (some (.int .i64 j)) none).run prog W=.ok (.slice a j cap) W:=by
 obtain⟨i,b,e,f,g⟩:=info_parts info43;have c:j<=cap:=by have:=h.1;omega
 simp[Instr.slice,Instr.sliceBounds,Instr.sliceBound,asIntOf,run_underlying underlying113,sizeOf,typeInfo,b,c,Result.andThen];intro _;cases a with
 |none=>rfl
 |some ad=>simp[Addr.add]
theorem S7.take{w:World}{a:Option Addr}{cap:Nat}{l:List Ln}(h:S7 w a cap l)(j:Nat)(f:j<=l.length):S7 w a cap (l.take j):=by
 refine⟨by have:=h.1;simp;omega,h.2.1,fun c d=>h.2.2.1 c (LY d),fun e=>?_⟩;obtain⟨b,off,h1,h2,h3⟩:=h.2.2.2 (by simp at e;omega);refine⟨b,off,h1,h2,fun i c d=>h3 i c ?_⟩;rw[List.getElem?_take]at d;split at d
 ·exact d
 ·simp at d
def Cp(w:World)(l:List Ln)(g:Nat)(i:Value)(wr:World):Prop:=∃j:Nat,j+g=l.length∧i=.int .i64 j∧chkLn [] l=chkLn (l.take j) (l.drop j)∧(∀x∈l.take j,1<=x.2.1∧x.2.1<=65536)∧TF w wr
theorem xp(a:Option Addr)(cap:Nat)(l:List Ln)(w:World)(h:S7 w a cap l):
  CZ 127 #[.slice a l.length cap] w (RT (.int .i64 (G1 l:Nat)) w):=by
 have D:Hid (S7 w a cap l):=h;obtain⟨L,t⟩:=EX l.length;have n:Hid (L=l.length):=t;by_cases h8:8<L
 ·have E:Hid (G1 l=5):=by
   have:G1 l=5:=by unfold G1;rw[if_pos (by omega)]
   exact this
  rw[<-t,E.o];clear h t;go_enter func127,ntmps127;go_wp2;go_ret;exact⟨rfl,TQ⟩
 ·have E:Hid (G1 l=chkLn [] l):=by
   have:G1 l=chkLn [] l:=by unfold G1;rw[if_neg (by omega)]
   exact this
  have S:Hid (L<=8):=(by omega:L<=8);have V:Hid (∀j W,j<=L->(Instr.slice 113 (.slice a L cap) none (some (.int .i64 (j:Nat))) none).run prog W=.ok (.slice a j cap) W):=fun j W hj=>by have:=DJ h j (by omega) W;rw[<-t]at this;exact this
  rw[<-t,E.o];have U:Hid (Cp w l L (.int .i64 0) w):=⟨0,by omega,rfl,rfl,fun x hx=>by simp at hx,TQ⟩;clear h t;go_enter func127,ntmps127;go_wp2;go_loopg[10] L (fun g i wr=>Cp w l g i wr)
  case atStart=>exact U.o
  case round=>
   obtain⟨j,ae,rfl,Y,Z,ht⟩:=hrel;have T:Hid (TF w wr):=ht;have C:Hid (j+gk=l.length):=ae;have R:Hid (chkLn [] l=chkLn (l.take j) (l.drop j)):=Y;have CN:Hid (∀x∈l.take j,1<=x.2.1∧x.2.1<=65536):=Z;clear ae Y Z ht U;by_cases ai:j<L
   ·obtain⟨c,u⟩:∃c,l[j]?=some c:=⟨_,LB (by rw[<-n.o];exact ai)⟩;obtain⟨b,off,rfl,al,c0,c1,c2⟩:=M8 (D.o.turned T.o) j c u;have ad:=(LA.1 u).1;have X:c=l[j]:=(LA.1 u).2.symm;have ab:l.drop j=c::l.drop (j+1):=by rw[List.drop_eq_getElem_cons ad,X]
    have d:=R.o;rw[ab,chkLn]at d;have DR:Hid (l[j]?=some c∧c∈l):=⟨u,LI u⟩;have M:=V.o j (wr.alloc (.cells #[.int .i64 c.1,.int .i64 c.2.1,.int .u32 c.2.2] 120)) (by omega);have m:=fun W=>cP c.1 W
    have p:CZ 139 #[.slice (some ⟨b,off,none⟩) j cap,.func (.func 213) #[] #[pt wr.heap.size]] (wr.alloc (.cells #[.int .i64 c.1,.int .i64 c.2.1,.int .u32 c.2.2] 120)) (RT (.bool (H2 (l.take j) c.1)) (wr.alloc (.cells #[.int .i64 c.1,.int .i64 c.2.1,.int .u32 c.2.2] 120))):=by have:=mS (some ⟨b,off,none⟩) cap wr.heap.size (l.take j) c (wr.alloc (.cells #[.int .i64 c.1,.int .i64 c.2.1,.int .u32 c.2.2] 120)) (((D.o.take j (by have:=n.o;omega)).turned T.o).turned TA) (g9 (heap_alloc_last wr _) 0 _ rfl);rw[List.length_take,Nat.min_eq_left (by have:=n.o;omega)]at this;exact this
    clear u ad X ab;have ag:(cO c.1=false∧fL c=true)∨(cO c.1=true∧decide (c.2.1<1)=true∧fL c=true)∨(cO c.1=true∧decide (c.2.1<1)=false∧decide (65536<c.2.1)=true∧fL c=true)∨(cO c.1=true∧decide (c.2.1<1)=false∧decide (65536<c.2.1)=false∧fL c=false):=by unfold fL;cases cO c.1<;>cases decide (c.2.1<1)<;>cases decide (65536<c.2.1)<;>simp
    rcases ag with⟨r,k⟩|⟨r,J,k⟩|⟨r,J,aa,k⟩|⟨r,J,aa,k⟩
    ·rw[if_pos k]at d;have f:Hid (chkLn [] l=1):=d;rw[r]at m;clear d k p M;go_wp2_with(go_fit(m _);rintro e w2⟨rfl,rfl⟩);go_ret;exact⟨by rw[f.o];rfl,T.o.new _⟩
    ·rw[if_pos k]at d;have f:Hid (chkLn [] l=1):=d;rw[r]at m;clear d k p M;go_wp2_with(go_fit(m _);rintro e w2⟨rfl,rfl⟩);go_ret;exact⟨by rw[f.o];rfl,T.o.new _⟩
    ·rw[if_pos k]at d;have f:Hid (chkLn [] l=1):=d;rw[r]at m;clear d k p M;go_wp2_with(go_fit(m _);rintro e w2⟨rfl,rfl⟩);go_ret;exact⟨by rw[f.o];rfl,T.o.new _⟩
    ·rw[if_neg (by rw[k];simp)]at d;rw[r]at m
     have H:1<=c.2.1∧c.2.1<=65536:=by
      have h1:¬c.2.1<1:=by simpa using J
      have h2:¬65536<c.2.1:=by simpa using aa
      omega
     by_cases v:H2 (l.take j) c.1=true
     ·rw[if_pos v]at d;have f:Hid (chkLn [] l=11):=d;rw[v]at p;clear d k v H
      go_wp2_with(first
       |(go_fit(m _);rintro e w2⟨rfl,rfl⟩)
       |(go_fit p;rintro e y⟨rfl,s⟩))
      go_ret;exact⟨by rw[f.o];rfl,(T.o.new _).tr s⟩
     ·have ac:H2 (l.take j) c.1=false:=by simpa using v
      rw[if_neg v]at d;rw[ac]at p;have O:l.take (j+1)=l.take j++[c]:=by rw[List.take_add_one,DR.o.1];rfl
      have I:∀x∈l.take (j+1),1<=x.2.1∧x.2.1<=65536:=by
       intro x hx;rw[O]at hx;rcases List.mem_append.1 hx with q|q
       ·exact CN.o x q
       ·rw[List.mem_singleton]at q;subst q;exact H
      have K:(l.take (j+1)).length=j+1:=by rw[List.length_take];have:=n.o;omega
      have P:=fun W(aj:TF w W)=>nt (some ⟨b,off,none⟩) cap (l.take (j+1)) W ((D.o.take (j+1) (by have:=n.o;omega)).turned aj) (fun i=>by
       have:=jq ((l.take (j+1)).take i) fun x hx=>I x (LY hx)
       have h3:((l.take (j+1)).take i).length<=8:=by have:=S.o;rw[List.length_take,K];omega
       unfold eO;omega) (by have:=S.o;omega)
      rw[K]at P;have am:∀W,(Instr.slice 113 (.slice (some ⟨b,off,none⟩) L cap) none (some (.int .i64 ((j:Int)+1))) none).run prog W=.ok (.slice (some ⟨b,off,none⟩) (j+1) cap) W:=fun W=>V.o (j+1) W (by omega)
      rw[<-O]at d;have F:Hid (∀W,TF w W->CZ 58 #[.slice (some ⟨b,off,none⟩) (j+1) cap] W (RT (.int .i64 (totLn (l.take (j+1)))) W)):=P;have af:Hid (∀x∈l.take (j+1),1<=x.2.1∧x.2.1<=65536):=I;have z:Hid (chkLn [] l=if 65536<totLn (l.take (j+1))then 1 else chkLn (l.take (j+1)) (l.drop (j+1))):=d;clear P I K O v ac d k H;generalize ak:totLn (l.take (j+1))=Q at F z;clear ak;by_cases B:65536<Q
      ·have ah:decide (65536<Q)=true:=by simp;omega
       have f:Hid (chkLn [] l=1):=by have:=z.o;rw[if_pos B]at this;exact this
       clear B z
       go_wp2_with(first
        |(go_fit(m _);rintro e w2⟨rfl,rfl⟩)
        |(go_fit p;rintro e y⟨rfl,s⟩;have A:Hid (TF w y):=(T.o.new _).tr s;have G:=F.o y A.o;clear s)
        |(go_fit G;rintro e w4⟨rfl,N⟩))
       go_ret;exact⟨by rw[f.o];rfl,A.o.tr N⟩
      ·have ah:decide (65536<Q)=false:=by simp;omega
       have f:Hid (chkLn [] l=chkLn (l.take (j+1)) (l.drop (j+1))):=by have:=z.o;rw[if_neg B]at this;exact this
       clear B z
       go_wp2_with(first
        |(go_fit(m _);rintro e w2⟨rfl,rfl⟩)
        |(go_fit p;rintro e y⟨rfl,s⟩;have A:Hid (TF w y):=(T.o.new _).tr s;have G:=F.o y A.o;clear s)
        |(go_fit G;rintro e w4⟨rfl,N⟩))
       go_roundg (gk-1)
       case measure=>have:=C.o;have:=n.o;omega
       case rel=>exact⟨j+1,by have:=C.o;have:=n.o;omega,by simp,f.o,af.o,A.o.tr N⟩
   ·have hj:j=L:=by have:=C.o;have:=n.o;omega
    subst hj;have f:Hid (chkLn [] l=0):=by have:=R.o;rw[List.drop_of_length_le (by have:=n.o;omega)]at this;exact this
    go_wp2;go_ret;exact⟨by rw[f.o];rfl,T.o⟩
def Cq(w:World)(l:List Ln)(g:Nat)(all i:Value)(wr:World):Prop:=∃j:Nat,j+g=l.length∧i=.int .i64 j∧all=.int .i64 (totLn (l.take j))∧chkLn [] l=chkLn (l.take j) (l.drop j)∧(∀x∈l.take j,1<=x.2.1∧x.2.1<=65536)∧TF w wr
def Fa(w:World)(l:List Ln)(j:Nat)(n:Int)(g:Nat)(k:Value)(wr:World):Prop:=∃t:Nat,t+g=j∧k=.int .i64 t∧(∀(q:Nat)(d:Ln),q<t->l[q]?=some d->d.1≠n)∧TF w wr
theorem tP(a:Option Addr)(cap:Nat)(l:List Ln)(w:World)(h:S7 w a cap l):
  CZ 279 #[.slice a l.length cap] w (RT (.int .i64 (G1 l:Nat)) w):=by
 have Y:Hid (S7 w a cap l):=h;obtain⟨L,v⟩:=EX l.length;have r:Hid (L=l.length):=v;by_cases h8:8<L
 ·have N:Hid (G1 l=5):=by
   have:G1 l=5:=by unfold G1;rw[if_pos (by omega)]
   exact this
  rw[<-v,N.o];clear h v;go_enter func279,ntmps279;go_wp2;go_ret;exact⟨rfl,TQ⟩
 ·have N:Hid (G1 l=chkLn [] l):=by
   have:G1 l=chkLn [] l:=by unfold G1;rw[if_neg (by omega)]
   exact this
  have H8:Hid (L<=8):=(by omega:L<=8);rw[<-v,N.o];have HS:Hid (Cq w l L (.int .i64 0) (.int .i64 0) w):=⟨0,by omega,rfl,rfl,rfl,fun x hx=>by simp at hx,TQ⟩;clear h v;go_enter func279,ntmps279;go_wp2;go_loopg[3,4] L (fun g all i wr=>Cq w l g all i wr)
  case atStart=>exact HS.o
  case round=>
   obtain⟨j,ai,rfl,rfl,ae,af,H⟩:=hrel;have T:Hid (TF w wr):=H;have K:Hid (j+gk=l.length):=ai;have X:Hid (chkLn [] l=chkLn (l.take j) (l.drop j)):=ae;have CN:Hid (∀x∈l.take j,1<=x.2.1∧x.2.1<=65536):=af;clear ai ae af H HS;by_cases au:j<L
   ·obtain⟨c,s⟩:∃c,l[j]?=some c:=⟨_,LB (by rw[<-r.o];exact au)⟩;obtain⟨b,off,rfl,P,c0,c1,c2⟩:=M8 (Y.o.turned T.o) j c s;have ah:=(LA.1 s).1;have ad:c=l[j]:=(LA.1 s).2.symm;have ag:l.drop j=c::l.drop (j+1):=by rw[List.drop_eq_getElem_cons ah,ad]
    have n:=X.o;rw[ag,chkLn]at n;have DR:Hid (l[j]?=some c∧c∈l):=⟨s,LI s⟩;clear s ah ad ag
    have ap:(fL c=true∧((decide (c.1<0)=true)∨(decide (c.1<0)=false∧decide (1073741824<c.1)=true)∨(decide (c.1<0)=false∧decide (1073741824<c.1)=false∧decide (c.2.1<1)=true)∨(decide (c.1<0)=false∧decide (1073741824<c.1)=false∧decide (c.2.1<1)=false∧decide (65536<c.2.1)=true)))∨
      (fL c=false∧decide (c.1<0)=false∧decide (1073741824<c.1)=false∧decide (c.2.1<1)=false∧decide (65536<c.2.1)=false):=by
     unfold fL cO;by_cases B:c.1<0
     ·exact .inl ⟨by simp;omega,.inl (by simpa using B)⟩
     ·by_cases J:1073741824<c.1
      ·exact .inl ⟨by simp;omega,.inr (.inl ⟨by simpa using B,by simpa using J⟩)⟩
      ·by_cases V:c.2.1<1
       ·exact .inl ⟨by simp;omega,.inr (.inr (.inl ⟨by simpa using B,by simpa using J,by simpa using V⟩))⟩
       ·by_cases q4:65536<c.2.1
        ·exact .inl ⟨by simp;omega,.inr (.inr (.inr ⟨by simpa using B,by simpa using J,by simpa using V,by simpa using q4⟩))⟩
        ·exact .inr ⟨by simp;omega,by simpa using B,by simpa using J,by simpa using V,by simpa using q4⟩
    rcases ap with⟨y,aq⟩|⟨y,p,f,E,R⟩
    ·rw[if_pos y]at n;have m:Hid (chkLn [] l=1):=n;clear n y;rcases aq with p|⟨p,f⟩|⟨p,f,E⟩|⟨p,f,E,R⟩
     all_goals go_wp2
     all_goals go_ret
     all_goals exact⟨by rw[m.o];rfl,T.o⟩
    ·rw[if_neg (by rw[y];simp)]at n
     have ac:1<=c.2.1∧c.2.1<=65536:=by
      have h1:¬c.2.1<1:=by simpa using E
      have h2:¬65536<c.2.1:=by simpa using R
      omega
     have I:l.take (j+1)=l.take j++[c]:=by rw[List.take_add_one,DR.o.1];rfl
     have Q:∀x∈l.take (j+1),1<=x.2.1∧x.2.1<=65536:=by
      intro x hx;rw[I]at hx;rcases List.mem_append.1 hx with q|q
      ·exact CN.o x q
      ·rw[List.mem_singleton]at q;subst q;exact ac
     have ak:totLn (l.take (j+1))=totLn (l.take j)+c.2.1:=by rw[I,cQ];simp[totLn]
     have U:wrap64 (totLn (l.take j)+c.2.1)=totLn (l.take (j+1)):=by
      have h1:=jq (l.take (j+1)) Q;have h2:(l.take (j+1)).length<=9:=by rw[List.length_take];have:=H8.o;omega
      rw[ak]at h1 ⊢;simp only[wrap64];omega
     rw[<-I]at n;have Z:Hid (chkLn [] l=if H2 (l.take j) c.1=true then 11 else if 65536<totLn (l.take (j+1))then 1 else chkLn (l.take (j+1)) (l.drop (j+1))):=n;have an:Hid (∀x∈l.take (j+1),1<=x.2.1∧x.2.1<=65536):=Q;have ab:Hid (wrap64 (totLn (l.take j)+c.2.1)=totLn (l.take (j+1))):=U;have W:Hid (wr.cell? ⟨b,off+j*3,none⟩=some (.int .i64 c.1)∧wr.cell? ⟨b,off+j*3+1,none⟩=some (.int .i64 c.2.1)):=⟨c0,c1⟩;clear n U Q ak I y ac;generalize totLn (l.take j)=t0 at *;go_wp2;obtain⟨wo,rfl⟩:∃x:World,x=wr:=⟨wr,rfl⟩;clear c0 c1 c2 p f E R;go_loopg[5] j (fun g k wr=>Fa wo l j c.1 g k wr)
     case atStart=>exact⟨0,Nat.zero_add _,rfl,fun q d G=>by omega,TQ⟩
     case round=>
      obtain⟨t,al,rfl,aj,am⟩:=hrel;have TQ:Hid (TF wo wr):=am;have M:Hid (t+gk=j):=al;have NO:Hid (∀(q:Nat)(d:Ln),q<t->l[q]?=some d->d.1≠c.1):=aj;have aw:wr.cell? ⟨b,off+j*3,none⟩=some (.int .i64 c.1):=by rw[World.cell?_of_block (w':=wr) (TQ.o.block b P fun q=>q)];exact W.o.1
      have ax:wr.cell? ⟨b,off+j*3+1,none⟩=some (.int .i64 c.2.1):=by rw[World.cell?_of_block (w':=wr) (TQ.o.block b P fun q=>q)];exact W.o.2
      have ay:b<wr.heap.size:=LC P TQ.o.size;clear am al aj;by_cases av:t<j
      ·obtain⟨d,f⟩:∃d,l[t]?=some d:=⟨_,LB (by rw[<-r.o];omega)⟩;obtain⟨b2,az,O,-,d0,-,-⟩:=M8 ((Y.o.turned T.o).turned TQ.o) t d f;injection O with O;injection O with e1 e2;subst e1;subst e2;have D:Hid (l[t]?=some d):=f;clear f;by_cases u:d.1=c.1
       ·have G:(d.1==c.1)=true:=by simp[u]
        have A:H2 (l.take j) c.1=true:=by unfold H2;rw[List.any_eq_true];refine⟨d,?_,by simpa using u⟩;refine LI (i:=t) ?_;rw[List.getElem?_take,if_pos av,D.o]
        have m:Hid (chkLn [] l=11):=by have:=Z.o;rw[if_pos A]at this;exact this
        clear A u;go_wp2;go_region
        all_goals go_wp2
        all_goals go_ret
        all_goals exact⟨by rw[m.o];rfl,(T.o.tr TQ.o).draw⟩
       ·have G:(d.1==c.1)=false:=by simp[u]
        have ao:Hid (d.1≠c.1):=u;clear u;go_wp2;go_region
        all_goals go_wp2
        all_goals
         go_roundg (gk-1)
         case measure=>have:=M.o;omega
         case rel=>
          refine⟨t+1,by have:=M.o;omega,by simp,fun q e G S=>?_,TQ.o.draw⟩;rcases Nat.lt_or_eq_of_le (Nat.le_of_lt_succ G)with z|z
          ·exact NO.o q e z S
          ·rw[z,D.o]at S;obtain rfl:=Option.some.inj S;exact ao.o
      ·have H:t=j:=by have:=M.o;omega
       have A:¬H2 (l.take j) c.1=true:=by
        intro q;unfold H2 at q;rw[List.any_eq_true]at q;obtain⟨d,p,f⟩:=q;obtain⟨i,F⟩:=LM p;rw[List.getElem?_take]at F;split at F
        ·exact NO.o i d (by omega) F (by simpa using f)
        ·simp at F
       have aa:Hid (chkLn [] l=if 65536<totLn (l.take (j+1))then 1 else chkLn (l.take (j+1)) (l.drop (j+1))):=by have:=Z.o;rw[if_neg A]at this;exact this
       subst H;have U:=ab.o;clear A;by_cases C:65536<totLn (l.take (t+1))
       ·have ar:decide (65536<totLn (l.take (t+1)))=true:=by simp;omega
        have m:Hid (chkLn [] l=1):=by have:=aa.o;rw[if_pos C]at this;exact this
        clear C;generalize totLn (l.take (t+1))=tt at *;go_wp2;go_ret;exact⟨by rw[m.o];rfl,T.o.tr TQ.o⟩
       ·have ar:decide (65536<totLn (l.take (t+1)))=false:=by simp;omega
        have m:Hid (chkLn [] l=chkLn (l.take (t+1)) (l.drop (t+1))):=by have:=aa.o;rw[if_neg C]at this;exact this
        clear C;go_wp2;go_roundg (l.length-t-1)
        case measure=>have:=K.o;have:=r.o;omega
        case rel=>exact⟨t+1,by have:=K.o;have:=r.o;omega,by simp,by rw[ab.o],m.o,an.o,T.o.tr TQ.o⟩
   ·have hj:j=L:=by have:=K.o;have:=r.o;omega
    subst hj;have m:Hid (chkLn [] l=0):=by have:=X.o;rw[List.drop_of_length_le (by have:=r.o;omega)]at this;exact this
    go_wp2;go_ret;exact⟨by rw[m.o];rfl,T.o⟩
end Go.Proofs.YtofcogekgcgjhaaGreatDoor.Ch
