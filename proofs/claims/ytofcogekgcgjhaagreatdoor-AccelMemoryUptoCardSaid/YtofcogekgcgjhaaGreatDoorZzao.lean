/- Packed. -/
import Derived.BigQuiet
import Derived.IntWalk
import Derived.Test.YtofcogekgcgjhaaGreatDoorZzam
import Derived.Test.YtofcogekgcgjhaaGreatDoorZzan
set_option maxRecDepth 100000
set_option maxHeartbeats 8000000
namespace Go.Proofs.YtofcogekgcgjhaaGreatDoor
open Go.RowKit Go.Mine Go.Proofs.Tryz
def eO(x:Int):Prop:=-9223372036854775808<=x∧x<=9223372036854775807
structure Rw where
 par:List Int
 tree:Int
 gen:Int
 state:Int
 bits:ByteArray
structure Gr where
 base:Int
 h:Int
 p:Int
 m:Int
 seed:Nat
 rows:List Rw
def p7(w:World)(S:Nat->Prop)(a:Option Addr)(cap:Nat)(l:List Int):Prop:=l.length<=cap∧cap<=maxLen∧(∀x∈l,eO x)∧(0<l.length->∃g off,a=some ⟨g,off,none⟩∧S g∧g<w.heap.size∧∀(i:Nat)(x:Int),l[i]?=some x->w.cell? ⟨g,off+i,none⟩=some (.int .i64 x))
theorem p7.turned{w w':World}{S T:Nat->Prop}{a:Option Addr}{cap:Nat}{l:List Int}(h:p7 w S a cap l)(d:d7 T w w')(e:∀b,S b->¬T b):p7 w' S a cap l:=by obtain⟨h1,h2,h3,h4⟩:=h;refine⟨h1,h2,h3,fun q=>?_⟩;obtain⟨g,off,rfl,c,j,f⟩:=h4 q;refine⟨g,off,rfl,c,by have:=d.size;omega,fun i x hx=>?_⟩;rw[World.cell?_of_block (w':=w') (d.block g j (e g c))];exact f i x hx
theorem p7.mono{w:World}{S T:Nat->Prop}{a:Option Addr}{cap:Nat}{l:List Int}(h:p7 w S a cap l)(c:∀b,S b->T b):p7 w T a cap l:=by obtain⟨h1,h2,h3,h4⟩:=h;refine⟨h1,h2,h3,fun q=>?_⟩;obtain⟨g,off,rfl,e,f,d⟩:=h4 q;exact⟨g,off,rfl,c g e,f,d⟩
theorem p7.take{w:World}{S:Nat->Prop}{a:Option Addr}{cap:Nat}{l:List Int}(h:p7 w S a cap l)(j:Nat):p7 w S a cap (l.take j):=by
 obtain⟨h1,h2,h3,h4⟩:=h;refine⟨by simp;omega,h2,fun x hx=>h3 x (LY hx),fun q=>?_⟩;obtain⟨g,off,rfl,c,d,b⟩:=h4 (by simp at q;omega);refine⟨g,off,rfl,c,d,fun i x hx=>b i x ?_⟩;rw[List.getElem?_take]at hx;split at hx
 ·exact hx
 ·simp at hx
theorem B8{w:World}{S:Nat->Prop}{a:Option Addr}{cap:Nat}{l:List Int}(h:p7 w S a cap l)(j:Nat)(x:Int)(hx:l[j]?=some x):
  ∃g off,a=some ⟨g,off,none⟩∧S g∧g<w.heap.size∧w.cell? ⟨g,off+j,none⟩=some (.int .i64 x):=by
 have b:=(LA.1 hx).1;obtain⟨g,off,h1,h2,h3,h4⟩:=h.2.2.2 (by omega);exact⟨g,off,h1,h2,h3,h4 j x hx⟩
def jY(w:World)(S:Nat->Prop)(g o:Nat)(r:Rw):Prop:=∃a cap,p7 w S a cap r.par∧w.cell? ⟨g,o,none⟩=some (.slice a r.par.length cap)∧w.cell? ⟨g,o+1,none⟩=some (.int .i64 r.tree)∧w.cell? ⟨g,o+2,none⟩=some (.int .i64 r.gen)∧w.cell? ⟨g,o+3,none⟩=some (.int .i64 r.state)∧w.cell? ⟨g,o+4,none⟩=some (.string r.bits)
def ju(r:Rw):Prop:=eO r.tree∧eO r.gen∧eO r.state∧r.bits.size<=140737488355328
def N0(w:World)(S:Nat->Prop)(a:Option Addr)(cap:Nat)(l:List Rw):Prop:=l.length<=cap∧cap<=maxLen∧(∀r∈l,ju r)∧(0<l.length->∃g off,a=some ⟨g,off,none⟩∧S g∧g<w.heap.size∧∀(i:Nat)(r:Rw),l[i]?=some r->jY w S g (off+i*5) r)
theorem jY.turned{w w':World}{S T:Nat->Prop}{g o:Nat}{r:Rw}(h:jY w S g o r)(d:d7 T w w')(c:∀b,S b->¬T b)(f:S g)(i:g<w.heap.size):jY w' S g o r:=by
 obtain⟨a,cap,h1,h2⟩:=h;refine⟨a,cap,h1.turned d c,?_⟩;have e:∀o,w'.cell? ⟨g,o,none⟩=w.cell? ⟨g,o,none⟩:=fun o=>World.cell?_of_block (w':=w') (d.block g i (c g f))
 simp only[e];exact h2
theorem N0.turned{w w':World}{S T:Nat->Prop}{a:Option Addr}{cap:Nat}{l:List Rw}(h:N0 w S a cap l)(d:d7 T w w')(e:∀b,S b->¬T b):N0 w' S a cap l:=by obtain⟨h1,h2,h3,h4⟩:=h;refine⟨h1,h2,h3,fun q=>?_⟩;obtain⟨g,off,rfl,c,j,f⟩:=h4 q;exact⟨g,off,rfl,c,by have:=d.size;omega,fun i r k=>(f i r k).turned d e c j⟩
theorem jY.mono{w:World}{S T:Nat->Prop}{g o:Nat}{r:Rw}(h:jY w S g o r)(c:∀b,S b->T b):jY w T g o r:=by obtain⟨a,cap,h1,h2⟩:=h;exact⟨a,cap,h1.mono c,h2⟩
theorem N0.mono{w:World}{S T:Nat->Prop}{a:Option Addr}{cap:Nat}{l:List Rw}(h:N0 w S a cap l)(c:∀b,S b->T b):N0 w T a cap l:=by obtain⟨h1,h2,h3,h4⟩:=h;refine⟨h1,h2,h3,fun q=>?_⟩;obtain⟨g,off,rfl,e,f,d⟩:=h4 q;exact⟨g,off,rfl,c g e,f,fun i r j=>(d i r j).mono c⟩
theorem dM{w:World}{S:Nat->Prop}{a:Option Addr}{cap:Nat}{l:List Rw}(h:N0 w S a cap l)(j:Nat)(r:Rw)(b:l[j]?=some r):
  ∃g off,a=some ⟨g,off,none⟩∧S g∧g<w.heap.size∧jY w S g (off+j*5) r:=by
 have c:=(LA.1 b).1;obtain⟨g,off,h1,h2,h3,h4⟩:=h.2.2.2 (by omega);exact⟨g,off,h1,h2,h3,h4 j r b⟩
abbrev dD(a:Option Addr)(cap:Nat)(r:Rw):Value:=.agg #[.slice a r.par.length cap,.int .i64 r.tree,.int .i64 r.gen,.int .i64 r.state,.string r.bits]
abbrev xG(a:Option Addr)(cap:Nat)(g:Gr):Value:=.agg #[.int .i64 g.base,.int .i64 g.h,.int .i64 g.p,.int .i64 g.m,.int .u32 g.seed,.slice a g.rows.length cap]
def iF(g:Gr):Prop:=eO g.base∧eO g.h∧eO g.p∧eO g.m∧g.seed<4294967296
def fq(state:Int)(bits:ByteArray):Bool:=if state=0∨state=2 then decide (bits.size=0)else if state=1 then decide (1<=bits.size∧bits.size<=4096)else false
def lF(n:Int)(l:List Int):Prop:=∀(i:Nat)(p:Int),l[i]?=some p->0<=p∧p<n∧p ∉ l.take i
def ft(r:Rw)(n:Int):Prop:=r.par.length<=16∧0<=r.tree∧r.tree<65536∧1<=r.gen∧r.gen<=1023∧lF n r.par∧fq r.state r.bits=true
def zD(g:Gr):Prop:=1<=g.h∧g.h<=16∧1<=g.p∧g.p<=64∧0<=g.m∧g.m<=512
def Ey(g:Gr):Prop:=0<=g.base∧g.base<=65536∧(g.rows.length:Int)<=65536-g.base
def Y2(g:Gr):Prop:=Ey g∧zD g∧∀(i:Nat)(r:Rw),g.rows[i]?=some r->ft r (g.base+i)
open Classical in
noncomputable def jZ(g:Gr):Nat:=if Y2 g then 0 else 1
theorem zE{g:Gr}(h:¬Y2 g):jZ g=1:=by unfold jZ;rw[if_neg h]
theorem jw{g:Gr}(h:Y2 g):jZ g=0:=by unfold jZ;rw[if_pos h]
theorem N2{n:Int}{l:List Int}(h:lF n l):∀p∈l,0<=p∧p<n:=fun p b=>by obtain⟨i,a⟩:=LM b;exact⟨(h i p a).1,(h i p a).2.1⟩
end Go.Proofs.YtofcogekgcgjhaaGreatDoor
namespace Go.Proofs.YtofcogekgcgjhaaGreatDoor
open Go.RowKit Go.Mine Go.Proofs.Tryz
theorem oS(x y:Int)(h:x=y):(x==y)=true:=by simp[h]
theorem iG(x y:Int)(h:x≠y):(x==y)=false:=by simp[h]
theorem rp(s:ByteArray)(h:s.size≠0):(s.toList==[])=false∧s.toList.isEmpty=false:=by
 have h2:s≠⟨#[]⟩:=fun q=>h (by rw[q];rfl)
 have h3:=Co s [] h2;refine⟨h3,?_⟩;cases a:s.toList with
 |nil=>rw[a]at h3;simp at h3
 |cons=>rfl
theorem zF(s:ByteArray)(h:s.size=0):s=⟨#[]⟩:=by apply ByteArray.ext;exact Array.eq_empty_of_size_eq_zero h
theorem kd{state:Int}{bits:ByteArray}(h:fq state bits=true):(state=1∧1<=bits.size∧bits.size<=4096)∨((state=0∨state=2)∧bits=⟨#[]⟩):=by
 unfold fq at h;split at h
 ·exact .inr ⟨by assumption,zF bits (of_decide_eq_true h)⟩
 ·split at h
  ·exact .inl ⟨by assumption,of_decide_eq_true h⟩
  ·cases h
theorem lG(state:Int)(bits:ByteArray)(w:World)(h:fq state bits=true):
  CZ 330 #[.agg #[.int .i64 state,.string bits]] w (RT (.bool true) w):=by
 rcases kd h with⟨rfl,h1,h2⟩|⟨rfl|rfl,rfl⟩
 ·obtain⟨a,b⟩:=rp bits (by omega);have d1:decide ((bits.size:Int)<=4096)=true:=LX (by omega);have d2:decide (bits.size<=4096)=true:=LX h2;clear h1 h2 h;go_enter func330,ntmps330;go_wp2;go_ret;exact⟨rfl,TA⟩
 all_goals
  clear h;go_enter func330,ntmps330;go_wp2;go_ret;exact⟨rfl,TA⟩
def Cv(w:World)(l:List Int)(x:Int)(g:Nat)(i:Value)(wr:World):Prop:=∃j:Nat,j+g=l.length∧i=.int .i64 j∧x ∉ l.take j∧w=wr
def DN(l:List Int)(x:Int)(w:World)(e:Ending)(w':World):Prop:=w=w'∧((x ∉ l∧e=.returned (.int .i64 (-1)))∨(x∈l∧∃j:Nat,e=.returned (.int .i64 j)))
theorem uh(S:Nat->Prop)(a:Option Addr)(cap:Nat)(l:List Int)(x:Int)(w:World)(h:p7 w S a cap l):
  CZ 308 #[.slice a l.length cap,.int .i64 x] w (DN l x w):=by
 have s:Hid (p7 w S a cap l):=h;obtain⟨L,e⟩:=EX l.length;have d:Hid (L=l.length):=e;rw[<-e];have v:Hid (L<=9223372036854775807):=(by rw[e];have:=h.1;have:=h.2.1;simp only[maxLen]at this;omega:L<=9223372036854775807);clear h e;go_enter func308,ntmps308;go_wp2;have n:Hid (Cv w l x L (.int .i64 0) w):=⟨0,by rw[d.o,Nat.zero_add],rfl,by simp,rfl⟩;go_loopg[8] L (fun g i wr=>Cv w l x g i wr)
 case atStart=>exact n.o
 case round=>
  obtain⟨j,p,rfl,r,rfl⟩:=hrel;have N:Hid (x ∉ l.take j):=r;have m:Hid (j+gk=l.length):=p;clear r p n;by_cases y:j<L
  ·obtain⟨c,k⟩:∃c,l[j]?=some c:=⟨_,LB (by rw[<-d.o];exact y)⟩;obtain⟨b,off,rfl,-,B,z⟩:=B8 s.o j c k;have u:Hid (wrap64 ((j:Int)+1)=((j+1:Nat):Int)):=(by have:=v.o;simp[wrap64];omega:wrap64 ((j:Int)+1)=((j+1:Nat):Int));have C:Hid (l[j]?=some c):=k;clear k;by_cases f:x=c
   ·subst f;go_wp2;go_ret;exact⟨rfl,.inr ⟨LI C.o,j,rfl⟩⟩
   ·have A:=iG _ _ f;have t:Hid (x≠c):=f;clear f;go_wp2;go_roundg (gk-1)
    case measure=>have:=m.o;have:=d.o;omega
    case rel=>
     refine⟨j+1,by have:=m.o;have:=d.o;omega,by rw[u.o],?_,rfl⟩;rw[List.take_add_one,C.o];simp only[Option.toList_some,List.mem_append,List.mem_singleton];exact fun q=>q.elim N.o t.o
  ·go_wp2;go_ret;refine⟨rfl,.inl ⟨fun q=>N.o ?_,rfl⟩⟩;rw[List.take_of_length_le (by have:=d.o;omega)];exact q
theorem gQ(S:Nat->Prop)(a:Option Addr)(cap:Nat)(l:List Int)(x:Int)(w:World)(h:p7 w S a cap l):
  CZ 237 #[.slice a l.length cap,.int .i64 x] w fun e w'=>e=.returned (.bool (decide (x∈l)))∧w=w':=by
 have d:=uh S a cap l x w h;clear h;generalize c:decide (x∈l)=b;have B:Hid (decide (x∈l)=b):=c;clear c;go_enter func237,ntmps237;go_wp2_with fail;refine d.mono ?_;rintro e g⟨rfl,⟨h1,rfl⟩|⟨h1,j,rfl⟩⟩
 ·obtain rfl:false=b:=by rw[<-B.o];simp[h1]
  clear h1;go_wp2;go_ret;exact⟨rfl,rfl⟩
 ·obtain rfl:true=b:=by rw[<-B.o];simp[h1]
  have f:decide ((0:Int)<=(j:Int))=true:=by simp
  clear h1;go_wp2;go_ret;exact⟨rfl,rfl⟩
theorem info3i:(prog.info? 3).map (fun i=>(i.zero,i.size,i.bytes))=some (some (.int .i64 0),1,8):=by kernel_rfl
theorem vZ{w:World}{S:Nat->Prop}{a:Option Addr}{cap:Nat}{l:List Int}(h:p7 w S a cap l)(j:Nat)(d:j<=l.length)(W:World):
  (Instr.slice 41 (.slice a l.length cap) none (some (.int .i64 j)) none).run prog W=.ok (.slice a j cap) W:=by
 obtain⟨i,b,e,f,g⟩:=info_parts info3i;have c:j<=cap:=by have:=h.1;omega
 simp[Instr.slice,Instr.sliceBounds,Instr.sliceBound,asIntOf,run_underlying underlying41,sizeOf,typeInfo,b,c,Result.andThen];intro _;cases a with
 |none=>rfl
 |some ad=>simp[Addr.add]
theorem nD{r:Rw}{n:Int}(h:ft r n):decide ((16:Int)<(r.par.length:Int))=false∧decide (16<r.par.length)=false∧decide (r.tree<0)=false∧decide (65536<=r.tree)=false∧decide (r.gen<1)=false∧decide (1023<r.gen)=false:=by obtain⟨a,b,c,d,e,-,-⟩:=h;exact⟨LD (by omega),LD (by omega),LD (by omega),LD (by omega),LD (by omega),LD (by omega)⟩
theorem rq(S:Nat->Prop)(a:Option Addr)(cap:Nat)(r:Rw)(n:Int)(w:World)(h:p7 w S a cap r.par)(f:ft r n):
  CZ 296 #[dD a cap r,.int .i64 n] w (RT (.bool true) w):=by
 obtain⟨d1,d2,K,M,N,O⟩:=nD f;have E:=fun W=>lG r.state r.bits W f.2.2.2.2.2.2
 have x:Hid (lF n r.par∧r.par.length<=16):=⟨f.2.2.2.2.2.1,f.1⟩;have m:Hid (p7 w S a cap r.par):=h;obtain⟨par,tree,gen,state,bits⟩:=r;unfold dD;dsimp only at *;obtain⟨L,t⟩:=EX par.length;have d:Hid (L=par.length):=t;rw[<-t]at d1 d2 ⊢;obtain⟨c,l⟩:=EX (w.alloc (.cells #[.slice a L cap,.int .i64 tree,.int .i64 gen,.int .i64 state,.string bits] 48));have A:Hid (c=w.alloc (.cells #[.slice a L cap,.int .i64 tree,.int .i64 gen,.int .i64 state,.string bits] 48)):=l;have s:Hid (TF w c):=by rw[l];exact TA
 have k:c.heap[w.heap.size]?=some (.cells #[.slice a L cap,.int .i64 tree,.int .i64 gen,.int .i64 state,.string bits] 48):=by rw[l];exact i8 _ _
 have k0:=g9 k 0 _ rfl;have k3:=g9 k 3 _ rfl;have k4:=g9 k 4 _ rfl;have T:=i6 k;clear h f t l k;go_enter func296,ntmps296;go_wp2_with fail;rw[<-A.o];go_loopg[34] L (fun g i wr=>∃j:Nat,j+g=L∧i=.int .i64 j∧c=wr)
 case atStart=>exact⟨0,Nat.zero_add _,rfl,rfl⟩
 case round=>
  obtain⟨j,y,rfl,rfl⟩:=hrel;have v:Hid (j+gk=L):=y;clear y;by_cases F:j<L
  ·obtain⟨p,u⟩:∃p,par[j]?=some p:=⟨_,LB (by rw[<-d.o];exact F)⟩;obtain⟨b,off,rfl,-,Q,J⟩:=B8 (m.o.turned s.o fun _ _ q=>q) j p u;obtain⟨H,I,z⟩:=x.o.1 j p u;have C:decide (p<0)=false:=LD (by omega);have P:decide (n<=p)=false:=LD (by omega);have B:Hid (wrap64 ((j:Int)+1)=((j+1:Nat):Int)):=(by have:=d.o;have:=x.o.2;simp[wrap64];omega:wrap64 ((j:Int)+1)=((j+1:Nat):Int));have R:∀W,(Instr.slice 41 (.slice (some ⟨b,off,none⟩) L cap) none (some (.int .i64 j)) none).run prog W=.ok (.slice (some ⟨b,off,none⟩) j cap) W:=fun W=>by have:=vZ m.o j (by rw[<-d.o];omega) W;rwa[<-d.o]at this
   have D:CZ 237 #[.slice (some ⟨b,off,none⟩) j cap,.int .i64 p] c fun e w'=>e=.returned (.bool false)∧c=w':=by have:=gQ S (some ⟨b,off,none⟩) cap (par.take j) p _ ((m.o.take j).turned s.o fun _ _ q=>q);rwa[List.length_take,Nat.min_eq_left (by rw[<-d.o];omega),LD z]at this
   clear u H I z;go_wp2_with(go_fit D;rintro e w2⟨rfl,rfl⟩);rw[B.o];go_roundg (gk-1)
   case measure=>have:=v.o;omega
   case rel=>exact⟨j+1,by have:=v.o;omega,rfl,rfl⟩
  ·have C:decide ((j:Int)<(L:Int))=false:=LD (by omega);go_wp2_with(go_fit(E _);rintro e w2⟨rfl,G⟩);go_ret;exact⟨rfl,s.o.tr G⟩
theorem oT(S:Nat->Prop)(a:Option Addr)(cap:Nat)(r:Rw)(n:Int)(w:World)(h:p7 w S a cap r.par)(d:ft r n):
  CZ 326 #[dD a cap r,.int .i64 n] w (RT (.bool true) w):=by
 obtain⟨d1,d2,d3,d4,d5,d6⟩:=nD d;have u:=kd d.2.2.2.2.2.2;replace u:=i7 u;have v:Hid (lF n r.par∧r.par.length<=16):=⟨d.2.2.2.2.2.1,d.1⟩;have I:Hid (p7 w S a cap r.par):=h;obtain⟨par,tree,gen,state,bits⟩:=r;unfold dD;dsimp only at *;obtain⟨L,A⟩:=EX par.length;have f:Hid (L=par.length):=A;rw[<-A]at d1 d2 ⊢;obtain⟨c,m⟩:=EX (w.alloc (.cells #[.slice a L cap,.int .i64 tree,.int .i64 gen,.int .i64 state,.string bits] 48));have R:Hid (c=w.alloc (.cells #[.slice a L cap,.int .i64 tree,.int .i64 gen,.int .i64 state,.string bits] 48)):=m;have l:Hid (TF w c):=by rw[m];exact TA
 have J:Hid (∀W,TF c W->W.cell? ⟨w.heap.size,0,none⟩=some (.slice a L cap)∧W.cell? ⟨w.heap.size,3,none⟩=some (.int .i64 state)∧W.cell? ⟨w.heap.size,4,none⟩=some (.string bits)∧w.heap.size<W.heap.size):=i7 fun W t=>by have s:=j9 (by rw[m];exact i8 _ _) t id;exact⟨g9 s 0 _ rfl,g9 s 3 _ rfl,g9 s 4 _ rfl,i6 s⟩
 clear h d A m;go_enter func326,ntmps326;go_wp2_with fail;rw[<-R.o];go_loopg[5] L (fun g i wr=>∃j:Nat,j+g=L∧i=.int .i64 j∧TF c wr)
 case atStart=>exact⟨0,Nat.zero_add _,rfl,TQ⟩
 case round=>
  obtain⟨j,M,rfl,B⟩:=hrel;have G:Hid (j+gk=L):=M;have T:Hid (TF c wr):=B;obtain⟨k0,k3,k4,O⟩:=J.o wr B;clear M B;by_cases X:j<L
  ·obtain⟨p,D⟩:∃p,par[j]?=some p:=⟨_,LB (by rw[<-f.o];exact X)⟩;obtain⟨b,off,rfl,-,K,y⟩:=B8 (I.o.turned (l.o.tr T.o) fun _ _ q=>q) j p D;obtain⟨Z,q2,P⟩:=v.o.1 j p D;have e1:decide (p<0)=false:=LD (by omega);have e2:decide (n<=p)=false:=LD (by omega);have U:Hid (p ∉ par.take j):=P;have F:Hid (wr.cell? ⟨b,off+j,none⟩=some (.int .i64 p)∧b<wr.heap.size):=⟨y,K⟩;clear D Z q2 P;go_wp2;obtain⟨Q,rfl⟩:∃x:World,x=wr:=⟨wr,rfl⟩;obtain⟨V,rfl⟩:∃x,x=gk:=⟨gk,rfl⟩;clear y k0 k3 k4 O K;go_loopg[6] j (fun g k wr=>∃t:Nat,t+g=j∧k=.int .i64 t∧TF Q wr)
   case atStart=>exact⟨0,Nat.zero_add _,rfl,TQ⟩
   case round=>
    obtain⟨t,N,rfl,e⟩:=hrel;have TQ:Hid (TF Q wr):=e;have H:Hid (t+gk=j):=N;have y:=m6 F.o.1 e id;have aa:b<wr.heap.size:=LC F.o.2 e.size;obtain⟨k0,k3,k4,O⟩:=J.o wr (T.o.tr e);clear e N;by_cases Y:t<j
    ·obtain⟨q,E⟩:∃q,par[t]?=some q:=⟨_,LB (by rw[<-f.o];omega)⟩;obtain⟨b2,ab,C,-,-,d0⟩:=B8 (I.o.turned ((l.o.tr T.o).tr TQ.o) fun _ _ q=>q) t q E;injection C with C;injection C with z1 z2;subst z1;subst z2;have hd:=iG q p fun z=>U.o (LI (i:=t) (by rw[List.getElem?_take,if_pos Y,E,z]))
     clear E;go_wp2;go_region
     all_goals go_wp2
     all_goals
      go_roundg (gk-1)
      case measure=>have:=H.o;omega
      case rel=>exact⟨t+1,by have:=H.o;omega,by have:=f.o;have:=v.o.2;simp[wrap64];omega,TQ.o.draw⟩
    ·go_wp2;go_roundg (V-1)
     case measure=>have:=G.o;omega
     case rel=>exact⟨j+1,by have:=G.o;omega,by have:=f.o;have:=v.o.2;simp[wrap64];omega,T.o.tr TQ.o⟩
  ·rcases u.o with⟨rfl,h1,h2⟩|⟨rfl|rfl,rfl⟩
   ·have x1:decide ((1:Int)<=(bits.size:Int))=true:=LX (by omega);have x2:decide (1<=bits.size)=true:=LX (by omega);have x3:decide (0<bits.size)=true:=LX (by omega);have y1:decide ((bits.size:Int)<=4096)=true:=LX (by omega);have y2:decide (bits.size<=4096)=true:=LX h2;clear h1 h2;go_wp2;go_ret;exact⟨rfl,l.o.tr T.o⟩
   all_goals
    go_wp2;go_ret;exact⟨rfl,l.o.tr T.o⟩
def dN(h p m:Int):Nat:=if 1<=h∧h<=16∧1<=p∧p<=64∧0<=m∧m<=512 then 0 else 1
theorem iH(h p m:Int)(seed:Nat)(w:World):
  CZ 131 #[.agg #[.int .i64 h,.int .i64 p,.int .i64 m,.int .u32 seed]] w (RT (.int .i64 (dN h p m:Nat)) w):=by
 generalize a:dN h p m=R;have b:Hid (dN h p m=R):=a;clear a;go_enter func131,ntmps131;go_wp2
 all_goals go_ret
 all_goals exact⟨by rw[<-b.o];unfold dN;first|(rw[if_neg (by omega)];rfl)|(rw[if_pos (by omega)];rfl),TA⟩
theorem gR(h p m:Int)(seed:Nat)(w:World):
  CZ 196 #[.agg #[.int .i64 h,.int .i64 p,.int .i64 m,.int .u32 seed]] w (RT (.int .i64 (dN h p m:Nat)) w):=by
 generalize a:dN h p m=R;have b:Hid (dN h p m=R):=a;clear a;go_enter func196,ntmps196;go_wp2
 all_goals go_ret
 all_goals exact⟨by rw[<-b.o];unfold dN;first|(rw[if_neg (by omega)];rfl)|(rw[if_pos (by omega)];rfl),TA⟩
theorem nE(g:Gr):dN g.h g.p g.m=0↔zD g:=by
 unfold dN zD;split
 ·rename_i h;exact⟨fun _=>h,fun _=>rfl⟩
 ·rename_i h;exact⟨fun q=>by simp at q,fun q=>absurd q h⟩
theorem xH(S:Nat->Prop)(a:Option Addr)(cap:Nat)(g:Gr)(w:World)(h:N0 w S a cap g.rows)(x:Y2 g):
  CZ 219 #[xG a cap g] w (RT (.int .i64 0) w):=by
 have B:=fun W=>iH g.h g.p g.m g.seed W
 rw[(nE g).2 x.2.1]at B;obtain⟨⟨n1,n2,u⟩,-,d⟩:=x;have G:Hid (∀(i:Nat)(r:Rw),g.rows[i]?=some r->ft r (g.base+i)):=d;have H:Hid (N0 w S a cap g.rows):=h;obtain⟨base,l,s,n,seed,rows⟩:=g;unfold xG;dsimp only at *;obtain⟨L,t⟩:=EX rows.length;have I:Hid (L=rows.length):=t;rw[<-t]at u ⊢;have d1:decide (base<0)=false:=LD (by omega);have d2:decide (65536<base)=false:=LD (by omega);have Q:decide (65536-base<(L:Int))=false:=LD (by omega);have F:Hid ((L:Int)<=65536-base∧0<=base):=⟨u,n1⟩;have U:0<=base:=n1;have V:base<=65536:=n2;have f:=A0 (w:=w) (.cells #[.int .i64 base,.int .i64 l,.int .i64 s,.int .i64 n,.int .u32 seed,.slice a L cap] 123);replace f:=i7 f;clear h d t n1 n2 u;go_enter func219,ntmps219;go_wp2;go_loopg[25] L (fun g i wr=>∃j:Nat,j+g=L∧i=.int .i64 j∧wr.heap[w.heap.size]?=some (.cells #[.int .i64 base,.int .i64 l,.int .i64 s,.int .i64 n,.int .u32 seed,.slice a L cap] 123)∧TF w wr)
 case atStart=>exact⟨0,Nat.zero_add _,rfl,f.o.2,f.o.1⟩
 case round=>
  obtain⟨j,A,rfl,c,C⟩:=hrel;have v:Hid (j+gk=L):=A;have T:Hid (TF w wr):=C;have E:Hid (wr.heap[w.heap.size]?=some (.cells #[.int .i64 base,.int .i64 l,.int .i64 s,.int .i64 n,.int .u32 seed,.slice a L cap] 123)):=c;have Z:=i6 c;have k0:=g9 c 0 _ rfl;have k1:=g9 c 1 _ rfl;have k2:=g9 c 2 _ rfl;have k3:=g9 c 3 _ rfl;have k4:=g9 c 4 _ rfl;clear A c C;by_cases J:j<L
  ·obtain⟨r,d⟩:∃r,rows[j]?=some r:=⟨_,LB (by rw[<-I.o];exact J)⟩;obtain⟨b,off,rfl,R,X,ra,D,z,K,M,N,O,P⟩:=dM (H.o.turned T.o fun _ _ q=>q) j r d;have Y:(j:Int)<65536:=by have:=F.o;omega
   have y:=rq S ra D r (base+j) (wr.alloc (.cells #[.slice ra r.par.length D,.int .i64 r.tree,.int .i64 r.gen,.int .i64 r.state,.string r.bits] 48)) (z.turned (d7.alloc (fun _=>False) wr _) fun _ _ q=>q) (G.o j r d);clear d z;unfold dD at y;generalize r.par.length=pl at *;generalize r.tree=rt at *;generalize r.gen=rg at *;generalize r.state=rs at *;generalize r.bits=rb at *;go_wp2_with(go_fit y;rintro e w2⟨rfl,k⟩);go_roundg (gk-1)
   case measure=>have:=v.o;omega
   case rel=>exact⟨j+1,by have:=v.o;omega,by simp,j9 E.o (TA.tr k) id,(T.o.new _).tr k⟩
  ·go_wp2_with(go_fit(B _);rintro e w2⟨rfl,k⟩);go_ret;exact⟨rfl,T.o.tr k⟩
theorem ui(S:Nat->Prop)(a:Option Addr)(cap:Nat)(g:Gr)(w:World)(h:N0 w S a cap g.rows)(x:Y2 g):
  CZ 275 #[xG a cap g] w (RT (.int .i64 0) w):=by
 have B:=fun W=>gR g.h g.p g.m g.seed W
 rw[(nE g).2 x.2.1]at B;obtain⟨⟨n1,n2,u⟩,-,c⟩:=x;have I:Hid (∀(i:Nat)(r:Rw),g.rows[i]?=some r->ft r (g.base+i)):=c;have J:Hid (N0 w S a cap g.rows):=h;obtain⟨base,k,n,l,seed,rows⟩:=g;unfold xG;dsimp only at *;obtain⟨L,s⟩:=EX rows.length;have K:Hid (L=rows.length):=s;rw[<-s]at u ⊢;have d1:decide (base<0)=false:=LD (by omega);have d2:decide (65536<base)=false:=LD (by omega);have U:decide (65536-base<(L:Int))=false:=LD (by omega);have H:Hid ((L:Int)<=65536-base∧0<=base):=⟨u,n1⟩;have X:0<=base:=n1;have Y:base<=65536:=n2;have f:=A0 (w:=w) (.cells #[.int .i64 base,.int .i64 k,.int .i64 n,.int .i64 l,.int .u32 seed,.slice a L cap] 123);replace f:=i7 f;clear h c s n1 n2 u;go_enter func275,ntmps275;go_wp2_with(go_fit(B _);rintro e F⟨rfl,t⟩);have B1:Hid (F.heap[w.heap.size]?=some (.cells #[.int .i64 base,.int .i64 k,.int .i64 n,.int .i64 l,.int .u32 seed,.slice a L cap] 123)∧TF w F):=⟨j9 f.o.2 t id,f.o.1.tr t⟩;clear t;go_loopg[3] L (fun g i wr=>∃j:Nat,j+g=L∧i=.int .i64 j∧wr.heap[w.heap.size]?=some (.cells #[.int .i64 base,.int .i64 k,.int .i64 n,.int .i64 l,.int .u32 seed,.slice a L cap] 123)∧TF w wr)
 case atStart=>exact⟨0,Nat.zero_add _,rfl,B1.o⟩
 case round=>
  obtain⟨j,A,rfl,d,D⟩:=hrel;have v:Hid (j+gk=L):=A;have T:Hid (TF w wr):=D;have G:Hid (wr.heap[w.heap.size]?=some (.cells #[.int .i64 base,.int .i64 k,.int .i64 n,.int .i64 l,.int .u32 seed,.slice a L cap] 123)):=d;have ab:=i6 d;have k0:=g9 d 0 _ rfl;have k5:=g9 d 5 _ rfl;clear A d D;by_cases M:j<L
  ·obtain⟨r,c⟩:∃r,rows[j]?=some r:=⟨_,LB (by rw[<-K.o];exact M)⟩;obtain⟨b,off,rfl,V,Z,ra,E,z,N,O,P,Q,R⟩:=dM (J.o.turned T.o fun _ _ q=>q) j r c;have aa:(j:Int)<65536:=by have:=H.o;omega
   have y:∀W,TF wr W->CZ 326 #[dD ra E r,.int .i64 (base+j)] W (RT (.bool true) W):=fun W q=>oT S ra E r (base+j) W (z.turned q fun _ _ q=>q) (I.o j r c)
   have ac:IntKind.i64.wrap (base+(j:Int))=base+(j:Int):=Go.IntWalk.i64_in _ (by omega);clear c z;unfold dD at y;generalize r.par.length=pl at *;generalize r.tree=rt at *;generalize r.gen=rg at *;generalize r.state=rs at *;generalize r.bits=rb at *;go_wp2;go_region_with (go_fit(y _ TD);rintro e w2⟨rfl,C⟩)
   all_goals go_wp2
   all_goals
    go_roundg (gk-1)
    case measure=>have:=v.o;omega
    case rel=>exact⟨j+1,by have:=v.o;omega,by simp,j9 G.o (TD.tr C) id,T.o.draw.tr C⟩
  ·go_wp2;go_ret;exact⟨rfl,T.o⟩
end Go.Proofs.YtofcogekgcgjhaaGreatDoor
namespace Go.Proofs.YtofcogekgcgjhaaGreatDoor
open Go.RowKit Go.Mine Go.Mine.Ac Go.Proofs.Tryz
def H1(w:World)(S:Nat->Prop)(a:Option Addr)(cap:Nat)(t:List Ent):Prop:=t.length<=cap∧cap<=maxLen∧(∀x∈t,x.2<4294967296)∧(0<t.length->∃g off,a=some ⟨g,off,none⟩∧S g∧g<w.heap.size∧∀(i:Nat)(x:Ent),t[i]?=some x->w.cell? ⟨g,off+i*2,none⟩=some (.string x.1)∧w.cell? ⟨g,off+i*2+1,none⟩=some (.int .u32 x.2))
theorem H1.turned{w w':World}{S T:Nat->Prop}{a:Option Addr}{cap:Nat}{t:List Ent}(h:H1 w S a cap t)(d:d7 T w w')(f:∀b,S b->¬T b):H1 w' S a cap t:=by
 obtain⟨h1,h2,h3,h4⟩:=h;refine⟨h1,h2,h3,fun q=>?_⟩;obtain⟨g,off,rfl,c,k,j⟩:=h4 q;refine⟨g,off,rfl,c,by have:=d.size;omega,fun i x hx=>?_⟩;have e:∀o,w'.cell? ⟨g,o,none⟩=w.cell? ⟨g,o,none⟩:=fun o=>World.cell?_of_block (w':=w') (d.block g k (f g c))
 rw[e,e];exact j i x hx
theorem H1.mono{w:World}{S T:Nat->Prop}{a:Option Addr}{cap:Nat}{t:List Ent}(h:H1 w S a cap t)(c:∀b,S b->T b):H1 w T a cap t:=by obtain⟨h1,h2,h3,h4⟩:=h;refine⟨h1,h2,h3,fun q=>?_⟩;obtain⟨g,off,rfl,e,f,d⟩:=h4 q;exact⟨g,off,rfl,c g e,f,d⟩
theorem cT{w:World}{S:Nat->Prop}{a:Option Addr}{cap:Nat}{t:List Ent}(h:H1 w S a cap t)(j:Nat)(x:Ent)(hx:t[j]?=some x):
  ∃g off,a=some ⟨g,off,none⟩∧S g∧g<w.heap.size∧w.cell? ⟨g,off+j*2,none⟩=some (.string x.1)∧w.cell? ⟨g,off+j*2+1,none⟩=some (.int .u32 x.2):=by
 have b:=(LA.1 hx).1;obtain⟨g,off,h1,h2,h3,h4⟩:=h.2.2.2 (by omega);exact⟨g,off,h1,h2,h3,h4 j x hx⟩
theorem H1.nil(w:World)(S:Nat->Prop):H1 w S none 0 []:=⟨LS _,Nat.zero_le _,by simp,fun h=>absurd h (by simp)⟩
def o6(t:List Ent):List Value:=t.flatMap fun x=>[.string x.1,.int .u32 x.2]
theorem uj(t:List Ent):(o6 t).length=t.length*2:=by induction t with|nil=>rfl|cons x t a=>simp[o6]at a ⊢;omega
theorem ecells_get:∀{t:List Ent}{i:Nat}{x:Ent},t[i]?=some x->(o6 t)[i*2]?=some (.string x.1)∧(o6 t)[i*2+1]?=some (.int .u32 x.2)
 | [],_,_,h=>by simp at h
 |y::t,0,x,h=>by simp at h;subst h;simp[o6]
 |y::t,i+1,x,h=>by have:=ecells_get (t:=t) (i:=i) (by simpa using h);simpa[o6,Nat.add_mul,Nat.add_right_comm]using this
theorem wd{w:World}{S:Nat->Prop}{T:TypeId}{v:Value}{t:List Ent}(h:Sl w S T 2 v (o6 t) t.length)(f:∀x∈t,x.2<4294967296):∃a cap,v=.slice a t.length cap∧H1 w S a cap t:=by
 by_cases d:0<t.length
 ·obtain⟨g,off,cap,rfl,l,c,b,e,-,m⟩:=h.opens d;refine⟨_,cap,rfl,c,b,f,fun _=>⟨g,off,rfl,l,m,fun i x hx=>?_⟩⟩;have n:=(LA.1 hx).1;obtain⟨j,k⟩:=ecells_get hx;rw[e _ (by omega),Nat.add_assoc,e _ (by omega)];exact⟨j,k⟩
 ·obtain⟨a,cap,rfl,c,b⟩:=h.value;exact⟨a,cap,rfl,c,b,f,fun q=>absurd q d⟩
def M6(w:World)(c:Nat->Nat)(e:Value)(l:List (List Ent)):Prop:=∃d,Sl w (fun b=>c b=2) 65 1 e d l.length∧∀(i:Nat)(t:List Ent),l[i]?=some t->∃a cap,d[i]?=some (.slice a t.length cap)∧H1 w (fun b=>c b=4) a cap t
def F8(w:World)(e:Nat->Nat)(f:Value)(l:List Cm):Prop:=∃d,Sl w (fun b=>e b=3) 55 2 f d l.length∧∀(i:Nat)(c:Cm),l[i]?=some c->∃a cap,d[i*2]?=some (.slice a c.par.length cap)∧d[i*2+1]?=some (.int .i64 c.tree)∧p7 w (fun b=>e b=4) a cap c.par
structure F4 (T:TypeId) (w:World) (rl:Nat->Nat) (p:Nat) (dv tv cv:Value) (s:St):Prop where
 r1:rl p=1
 blk:X8 w p #[dv,tv,cv,.bool s.dead] T
 trees:M6 w rl tv s.trees
 commits:F8 w rl cv s.commits
 bnd:∀b,rl b≠0->b<w.heap.size
theorem M6.turned{w w':World}{T:Nat->Prop}{c:Nat->Nat}{f:Value}{l:List (List Ent)}(h:M6 w c f l)(e:d7 T w w')(d:∀b,c b≠0->¬T b):M6 w' c f l:=by obtain⟨k,h1,h2⟩:=h;refine⟨k,h1.turned e fun b g=>d b (by omega),fun i t j=>?_⟩;obtain⟨a,cap,h3,h4⟩:=h2 i t j;exact⟨a,cap,h3,h4.turned e fun b g=>d b (by omega)⟩
theorem F8.turned{w w':World}{T:Nat->Prop}{c:Nat->Nat}{d:Value}{l:List Cm}(h:F8 w c d l)(f:d7 T w w')(e:∀b,c b≠0->¬T b):F8 w' c d l:=by obtain⟨m,h1,h2⟩:=h;refine⟨m,h1.turned f fun b j=>e b (by omega),fun i t k=>?_⟩;obtain⟨a,cap,h3,h4,g⟩:=h2 i t k;exact⟨a,cap,h3,h4,g.turned f fun b j=>e b (by omega)⟩
theorem M6.roles{w:World}{d f:Nat->Nat}{g:Value}{l:List (List Ent)}(h:M6 w d g l)(e:∀b,d b≠0->f b=d b):M6 w f g l:=by obtain⟨k,h1,h2⟩:=h;refine⟨k,h1.widen fun b c=>(e b (by omega)).trans c,fun i t j=>?_⟩;obtain⟨a,cap,h3,h4⟩:=h2 i t j;exact⟨a,cap,h3,h4.mono fun b c=>(e b (by omega)).trans c⟩
theorem F8.roles{w:World}{d g:Nat->Nat}{e:Value}{l:List Cm}(h:F8 w d e l)(f:∀b,d b≠0->g b=d b):F8 w g e l:=by obtain⟨m,h1,h2⟩:=h;refine⟨m,h1.widen fun b c=>(f b (by omega)).trans c,fun i t k=>?_⟩;obtain⟨a,cap,h3,h4,j⟩:=h2 i t k;exact⟨a,cap,h3,h4,j.mono fun b c=>(f b (by omega)).trans c⟩
theorem F4.turned{T:TypeId}{w w':World}{U:Nat->Prop}{d:Nat->Nat}{p:Nat}{f g e:Value}{s:St}(h:F4 T w d p f g e s)(a:d7 U w w')(c:∀b,d b≠0->¬U b):F4 T w' d p f g e s:=⟨h.r1,(a.block _ (i6 h.blk) (c _ (by rw[h.r1];decide))).trans h.blk,h.trees.turned a c,h.commits.turned a c,fun b i=>LC (h.bnd b i) a.size⟩
theorem ru(n:Int)(w:World):CZ 233 #[.int .i64 n] w fun e w'=>e=.returned (.int .i64 (counted n))∧w=w':=by
 unfold counted;by_cases h:1023<n
 ·rw[if_pos h];have b:decide (1023<n)=true:=by simp[h]
  clear h;go_enter func233,ntmps233;go_wp2;go_ret;exact⟨rfl,rfl⟩
 ·rw[if_neg h];have b:decide (1023<n)=false:=by simp[h]
  obtain⟨m,a⟩:=EX (max n 1);have h1:(if n<1 then(1:Int)else n)=m:=by split<;>omega
  have h2:(if 1<n then n else(1:Int))=m:=by split<;>omega
  have h3:(if 1<=n then n else(1:Int))=m:=by split<;>omega
  have h4:(if n<=1 then(1:Int)else n)=m:=by split<;>omega
  rw[<-a];clear h a;go_enter func233,ntmps233;go_wp2;go_ret;exact⟨rfl,rfl⟩
def N5(l:List Int):Int:=l.foldl (fun h p=>max h (counted p)) 0
theorem lH(l:List Int)(x:Int):N5 (l++[x])=max (N5 l) (counted x):=by unfold N5;rw[List.foldl_append];rfl
theorem lI(n:Int):1<=counted n∧counted n<=1024:=by unfold counted;split<;>omega
theorem iI(l:List Int):0<=N5 l∧N5 l<=1024:=by
 have:∀(k:List Int)(h:Int),0<=h->h<=1024->0<=k.foldl (fun h p=>max h (counted p)) h∧k.foldl (fun h p=>max h (counted p)) h<=1024:=by
  intro k
  induction k with|nil=>intro h a b;exact⟨a,b⟩|cons x k c=>intro h a b;have:=lI x;exact c (max h (counted x)) (by omega) (by omega)
 exact this l 0 (by omega) (by omega)
theorem lJ(l:List Int):X0 l=if 1023<=N5 l then N5 l else N5 l+1:=rfl
theorem zG(l:List Int):1<=X0 l∧X0 l<=1024:=by rw[lJ];have:=iI l;split<;>omega
def wf(w:World)(l:List Int)(g:Nat)(a b:Value)(wr:World):Prop:=∃j:Nat,j+g=l.length∧b=.int .i64 j∧a=.int .i64 (N5 (l.take j))∧w=wr
theorem zH{w:World}{S:Nat->Prop}{a:Option Addr}{cap:Nat}{l:List Int}(h:p7 w S a cap l)(J:l.length<=1000000):
  CZ 143 #[.slice a l.length cap] w fun e w'=>e=.returned (.int .i64 (X0 l))∧w=w':=by
 have A:Hid (p7 w S a cap l):=h;obtain⟨r,s⟩:=EX (X0 l);have D:Hid (r=X0 l):=s;rw[<-s];obtain⟨L,q⟩:=EX l.length;have f:Hid (L=l.length∧L<=1000000):=⟨q,by omega⟩;rw[<-q];have t:Hid (wf w l L (.int .i64 0) (.int .i64 0) w):=⟨0,by omega,rfl,rfl,rfl⟩;clear h q J s;go_enter func143,ntmps143;go_wp2;go_loopg[3,8] L (fun g N O wr=>wf w l g N O wr)
 case atStart=>exact t.o
 case round=>
  obtain⟨j,u,rfl,rfl,rfl⟩:=hrel;have k:Hid (j+gk=l.length):=u;clear u t;by_cases K:j<L
  ·obtain⟨x,hx⟩:∃x,l[j]?=some x:=⟨_,LB (by rw[<-f.o.1];exact K)⟩;obtain⟨b,off,rfl,-,Q,P⟩:=B8 A.o j x hx;have M:=ru x w;have y:=iI (l.take j);have G:=lI x;have z:N5 (l.take (j+1))=max (N5 (l.take j)) (counted x):=by rw[List.take_add_one,hx];exact lH _ _
   have E:Hid (N5 (l.take (j+1))=max (N5 (l.take j)) (counted x)):=z;have F:Hid (wrap64 ((j:Int)+1)=((j+1:Nat):Int)):=i7 (by have:=f.o;simp[wrap64];omega);obtain⟨m,v⟩:=EX (max (N5 (l.take j)) (counted x));have i:Hid (m=max (N5 (l.take j)) (counted x)):=v;clear hx z;generalize counted x=C at *;generalize N5 (l.take j)=c at *;have h1:(if c<C then C else c)=m:=by rw[i.o];split<;>omega
   have h2:(if C<c then c else C)=m:=by rw[i.o];split<;>omega
   have h3:(if C<=c then c else C)=m:=by rw[i.o];split<;>omega
   have h4:(if c<=C then C else c)=m:=by rw[i.o];split<;>omega
   clear v y G;go_wp2_with(go_fit M;rintro e w'⟨rfl,rfl⟩);go_roundg (gk-1)
   case measure=>have:=k.o;have:=f.o;omega
   case rel=>exact⟨j+1,by have:=k.o;have:=f.o;omega,by rw[F.o],by rw[E.o,i.o],rfl⟩
  ·have I:j=L:=by have:=k.o;have:=f.o;omega
   subst I;have B:Hid (l.take j=l):=LQ (by have:=f.o.1;omega);have y:=iI l;have d:=lJ l;rw[<-D.o]at d;rw[B.o];generalize N5 l=c at *;have R:decide (j<j)=false:=by simp
   by_cases p:1023<=c
   ·rw[if_pos p]at d;have n:Hid (r=c):=d;have H:decide (1023<=c)=true:=by simp[p]
    clear d;go_wp2;go_ret;exact⟨by rw[n.o];rfl,rfl⟩
   ·rw[if_neg p]at d;have n:Hid (r=c+1):=d;have H:decide (1023<=c)=false:=by simp;omega
    clear d;go_wp2;go_ret;exact⟨by rw[n.o];rfl,rfl⟩
abbrev J3(s:I2):Value:=.agg #[.int .i64 s.h,.int .i64 s.p,.int .i64 s.m,.int .u32 s.seed]
theorem ij(s:I2)(w:World):CZ 131 #[J3 s] w (RT (.int .i64 (if n0 s then 0 else 1)) w):=by
 have e:((dN s.h s.p s.m:Nat):Int)=if n0 s then 0 else 1:=by unfold dN;split;exact(if_pos ‹_›).symm;exact(if_neg ‹_›).symm
 rw[<-e];exact iH s.h s.p s.m s.seed w
end Go.Proofs.YtofcogekgcgjhaaGreatDoor
