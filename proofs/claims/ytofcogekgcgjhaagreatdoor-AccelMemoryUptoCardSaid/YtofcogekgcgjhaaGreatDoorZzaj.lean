/- Packed. -/
import Derived.Test.YtofcogekgcgjhaaGreatDoorZzaf
set_option maxRecDepth 100000
set_option maxHeartbeats 8000000
namespace Go.Proofs.YtofcogekgcgjhaaGreatDoor
open Go.RowKit Go.Mine Tryz
abbrev Fi(c:Ch):Value:=.agg #[.int .u32 c.1,.string c.2]
theorem zn(c d:Ch)(x:Nat)(w:World)(hx:w.cell? ⟨x,0,none⟩=some (.int .u32 d.1)):
  CZ 298 #[Fi c,pt x] w (RT (.bool (decide (c.1=d.1))) w):=by
 have b:=n7 hx;have a:decide (c.1=d.1)=decide ((c.1:Int)=(d.1:Int)):=by
  have:(c.1=d.1)=((c.1:Int)=(d.1:Int)):=by apply propext;omega
  simp only[this]
 rw[a];clear a;go_enter func298,ntmps298;go_wp2;go_ret;exact⟨by rfl,TA⟩
theorem fM{w:World}{a:Option Addr}{cap:Nat}{l:List Ch}(h:dU w a cap l)(j:Nat)(c:Ch)(d:l[j]?=some c):
  ∃b off,a=some ⟨b,off,none⟩∧b<w.heap.size∧w.cell? ⟨b,off+j*2,none⟩=some (.int .u32 c.1)∧w.cell? ⟨b,off+j*2+1,none⟩=some (.string c.2):=by
 have e:=(LA.1 d).1;obtain⟨b,off,h1,h2,h3⟩:=h.2.2.2 (by omega);exact⟨b,off,h1,h2,(h3 j c d).1,(h3 j c d).2⟩
def X1(l:List Ch)(a:Nat):Bool:=l.any (fun c=>decide (c.1=a))
def zo(w:World)(l:List Ch)(a:Nat)(g:Nat)(i:Value)(wr:World):Prop:=∃j:Nat,j+g=l.length∧i=.int .i64 j∧(∀t d,t<j->l[t]?=some d->d.1≠a)∧TF w wr
def Bm(w:World)(l:List Ch)(a:Nat)(e:Ending)(w':World):Prop:=TF w w'∧((X1 l a=false∧e=.returned (.int .i64 (-1)))∨(X1 l a=true∧∃j:Nat,e=.returned (.int .i64 j)))
theorem mT(a:Option Addr)(cap x:Nat)(l:List Ch)(d:Ch)(w:World)(h:dU w a cap l)(hx:w.cell? ⟨x,0,none⟩=some (.int .u32 d.1)):
  CZ 331 #[.slice a l.length cap,.func (.func 298) #[] #[pt x]] w (Bm w l d.1):=by
 have E:Hid (dU w a cap l):=h;have z:Hid (w.cell? ⟨x,0,none⟩=some (.int .u32 d.1)):=hx;obtain⟨L,p⟩:=EX l.length;have k:Hid (L=l.length):=p;rw[<-p];have H:Hid (L<=9223372036854775807):=(by rw[p];have:=h.1;have:=h.2.1;simp only[maxLen]at this;omega:L<=9223372036854775807);clear h p hx;go_enter func331,ntmps331;go_wp2;have y:Hid (zo w l d.1 L (.int .i64 0) w):=⟨0,by rw[k.o,Nat.zero_add],rfl,fun t d f=>by omega,TQ⟩;go_loopg[8] L (fun g i wr=>zo w l d.1 g i wr)
 case atStart=>exact y.o
 case round=>
  obtain⟨j,A,rfl,B,f⟩:=hrel;have N:Hid (∀t e,t<j->l[t]?=some e->e.1≠d.1):=B;have T:Hid (TF w wr):=f;have v:Hid (j+gk=l.length):=A;clear B f A y;by_cases I:j<L
  ·obtain⟨c,m⟩:∃c,l[j]?=some c:=⟨_,LB (by rw[<-k.o];exact I)⟩;obtain⟨b,off,rfl,M,J,K⟩:=fM (E.o.turned T.o) j c m;have D:wrap64 ((j:Int)+1)=((j+1:Nat):Int):=by have:=H.o;simp[wrap64];omega
   have G:Hid (wrap64 ((j:Int)+1)=((j+1:Nat):Int)):=D;have C:Hid (l[j]?=some c):=m;have r:CZ 298 #[Fi c,pt x] wr _:=zn c d x wr (by rw[World.cell?_of_block (w':=wr) (T.o.block x (n7 z.o) fun q=>q)];exact z.o);clear m D;by_cases n:c.1=d.1
   ·rw[decide_eq_true n]at r;have F:Hid (c.1=d.1):=n;clear n;go_wp2_with(go_fit r;rintro e w2⟨rfl,u⟩);go_ret;refine⟨T.o.tr u,.inr ⟨?_,j,rfl⟩⟩;unfold X1;rw[List.any_eq_true];exact⟨c,LI C.o,by simpa using F.o⟩
   ·rw[decide_eq_false n]at r;go_wp2_with(go_fit r;rintro e w2⟨rfl,u⟩);go_roundg (gk-1)
    case measure=>have:=v.o;have:=k.o;omega
    case rel=>
     refine⟨j+1,by have:=v.o;have:=k.o;omega,by rw[G.o],fun t e f s=>?_,T.o.tr u⟩;rcases Nat.lt_or_eq_of_le (Nat.le_of_lt_succ f)with q|q
     ·exact N.o t e q s
     ·rw[q,C.o]at s;obtain rfl:=Option.some.inj s;exact n
  ·go_wp2;go_ret;refine⟨T.o,.inl ⟨?_,rfl⟩⟩;unfold X1;rw[List.any_eq_false];intro c m;obtain⟨t,f⟩:=LM m;have:=(LA.1 f).1;simpa using N.o t c (by have:=k.o;omega) f
theorem js(a:Option Addr)(cap x:Nat)(l:List Ch)(d:Ch)(w:World)(h:dU w a cap l)(hx:w.cell? ⟨x,0,none⟩=some (.int .u32 d.1)):
  CZ 297 #[.slice a l.length cap,.func (.func 298) #[] #[pt x]] w (RT (.bool (X1 l d.1)) w):=by
 have g:=mT a cap x l d w h hx;clear h hx;generalize c:X1 l d.1=b;have B:Hid (X1 l d.1=b):=c;clear c;go_enter func297,ntmps297;go_wp2_with fail;refine g.mono ?_;rintro e k⟨f,⟨h1,rfl⟩|⟨h1,j,rfl⟩⟩
 ·rw[B.o]at h1;subst h1;go_wp2;go_ret;exact⟨rfl,f⟩
 ·rw[B.o]at h1;subst h1;have i:decide ((0:Int)<=(j:Int))=true:=by simp
  go_wp2;go_ret;exact⟨rfl,f⟩
def ccells:List Ch->List Value
 | []=>[]
 |c::l=>.int .u32 c.1:: .string c.2::ccells l
theorem G7(l:List Ch):(ccells l).length=l.length*2:=by
 induction l with|nil=>rfl|cons c l a=>simp[ccells,a];omega
theorem ccells_get:∀(l:List Ch)(i:Nat)(c:Ch),l[i]?=some c->(ccells l)[i*2]?=some (.int .u32 c.1)∧(ccells l)[i*2+1]?=some (.string c.2)
 | [],i,c,h=>by simp at h
 |d::l,0,c,h=>by simp at h;subst h;simp[ccells]
 |d::l,i+1,c,h=>by
  have:=ccells_get l i c (by simpa using h);have a:(i+1)*2=i*2+1+1:=by omega
  have b:(i+1)*2+1=i*2+1+1+1:=by omega
  rw[b,a];simp only[ccells,List.getElem?_cons_succ];exact this
theorem jt(l:List Ch)(j:Nat)(b:Value)(h:(ccells l)[j]?=some b):∃i c,l[i]?=some c∧((j=i*2∧b=.int .u32 c.1)∨(j=i*2+1∧b=.string c.2)):=by
 have k:=(LA.1 h).1;rw[G7]at k;have g:j / 2<l.length:=by omega
 have a:l[j / 2]?=some l[j / 2]:=LB g;obtain⟨d,f⟩:=ccells_get l _ _ a;rcases Nat.mod_two_eq_zero_or_one j with m|m
 ·have e:j=j / 2*2:=by omega
  refine⟨_,_,a,.inl ⟨e,?_⟩⟩;rw[e,d]at h;exact(Option.some.inj h).symm
 ·have e:j=j / 2*2+1:=by omega
  refine⟨_,_,a,.inr ⟨e,?_⟩⟩;rw[e,f]at h;exact(Option.some.inj h).symm
theorem tS{w:World}{a:Option Addr}{cap:Nat}{l:List Ch}(h:dU w a cap l)(o:a=none->cap=0):Src prog 2 273 (.slice a l.length cap) l.length (ccells l) w:=by
 rcases Nat.eq_zero_or_pos l.length with f|f
 ·have:l=[]:=LO f;subst this;cases a with
  |none=>exact Src.ofNil w underlying273 cap
  |some ad=>exact Src.ofSlice w underlying273 ad 0 cap [] rfl (fun j e d=>by simp at d) (fun e k=>by simp at k)
 ·obtain⟨b,off,rfl,n,m⟩:=h.2.2.2 f;refine Src.ofSlice w underlying273 ⟨b,off,none⟩ l.length cap (ccells l) (G7 l) (fun j e d=>?_) (fun e k=>?_)
  ·rw[Addr.add_lit];obtain⟨i,c,g,⟨rfl,rfl⟩|⟨rfl,rfl⟩⟩:=jt l j e d
   ·exact(m i c g).1
   ·rw[<-Nat.add_assoc];exact(m i c g).2
  ·obtain⟨j,d⟩:=LM k;obtain⟨i,c,g,⟨rfl,rfl⟩|⟨rfl,rfl⟩⟩:=jt l j e d<;>rfl
theorem info31:(prog.info? 285).map (fun i=>(i.zero,i.size,i.bytes))=some (some (.agg #[.int .u32 0,.string ⟨#[]⟩]),2,24):=by kernel_rfl
theorem xy(a:Option Addr)(cap:Nat)(l:List Ch)(w:World)(h:dU w a cap l)(d:a≠none)(k:l.length<=100000):
  CZ 299 #[.slice a l.length cap] w fun e w'=>∃v,e=.returned v∧Sl w' (fun b=>w.heap.size<=b) 285 2 v (ccells l) l.length∧TF w w':=by
 have c:∀w',TF w w'->Src prog 2 273 (.slice a l.length cap) l.length (ccells l) w':=fun w' r=>tS (h.turned r) (fun q=>absurd q d)
 obtain⟨ad,rfl⟩:∃ad,a=some ad:=by cases a with
  |none=>exact absurd rfl d
  |some ad=>exact⟨ad,rfl⟩
 have p:Hid (∀w',TF w w'->Src prog 2 273 (.slice (some ad) l.length cap) l.length (ccells l) w'):=c;have g:Hid (l.length<=100000):=k;clear h d c k;generalize j:l.length=L at *;have u:Hid (l.length=L):=j;clear j;have A:∀w',(binOp .eql 273 (.slice (some ad) L cap) (.slice none 0 0)).run prog w'=.ok (.bool false) w':=fun w'=>Lib.run_eql_slice_nil w' 273 285 (some ad) L cap 0 0 underlying273
 go_enter func299,ntmps299;have m:Sl (w.alloc (.cells #[] 285)) (· =w.heap.size) 285 2 (.slice (some ⟨w.heap.size,0,none⟩) 0 0) [] 0:=⟨rfl,.inr ⟨w.heap.size,0,0,#[],rfl,rfl,heap_alloc_last w _,LS _,by simp[maxLen],by simp,by simp⟩⟩;have c:=p.o (w.alloc (.cells #[] 285)) TA;have h1:Hid (0+L<=maxLen):=(by have:=g.o;simp only[maxLen];omega:0+L<=maxLen);have h2:Hid ((0+L)*24<=140737488355328):=(by have:=g.o;omega:(0+L)*24<=140737488355328);have n:Hid (Sl (w.alloc (.cells #[] 285)) (· =w.heap.size) 285 2 (.slice (some ⟨w.heap.size,0,none⟩) 0 0) [] 0):=m;have A1:Hid (Src prog 2 273 (.slice (some ad) L cap) L (ccells l) (w.alloc (.cells #[] 285))):=c;clear m c;go_wp2_with(at_builtin;refine m7 rfl _ _ 273 273 rfl n.o underlying273 info31 rfl (by decide) rfl (.slice (some ad) L cap) rfl A1.o h1.o h2.o ?_;intro C D f s;obtain⟨x,y,t,-,-⟩:=f.value;subst t);go_ret;refine⟨_,rfl,?_,(d7.alloc (fun _=>False) w (.cells #[] 285)).comp s fun i z q=>q.elim id fun q=>by omega⟩;rw[List.nil_append]at f;have B:(w.alloc (.cells #[] 285)).heap.size=w.heap.size+1:=by simp
 have:=f.widen (T:=fun b=>w.heap.size<=b) fun b q=>q.elim (fun q=>by omega) fun q=>by omega
 rw[Nat.zero_add]at this;simpa using this
def checkCh:List Ch->List Ch->Nat
 |_,[]=>0
 |a,c::r=>if c.1=0 then 1 else if X1 a c.1 then 11 else checkCh (a++[c]) r
def dataSize:List Ch->Nat
 | []=>0
 |c::l=>c.2.size+dataSize l
theorem Z8(a b:List Ch):dataSize (a++b)=dataSize a+dataSize b:=by
 induction a with|nil=>simp[dataSize]|cons c a d=>simp[dataSize,d];omega
def t7(l:List Ch):Nat:=
 if 16<l.length then 5
 else if checkCh [] l≠0 then checkCh [] l
 else if 4194304<10+8*l.length+dataSize l then 5 else 0
def eq(c:Ch):List Ch->List Ch
 | []=>[c]
 |d::l=>if d.1<c.1 then d::eq c l else c::d::l
def m8(l:List Ch):List Ch:=l.foldl (fun a c=>eq c a) []
theorem ig(c:Ch)(l:List Ch):(eq c l).Perm (c::l):=by
 induction l with
 |nil=>exact List.Perm.refl _
 |cons d l a=>
  unfold eq;split
  ·exact(List.Perm.cons d a).trans (List.Perm.swap c d l)
  ·exact List.Perm.refl _
theorem lo(l:List Ch):∀a:List Ch,(l.foldl (fun a c=>eq c a) a).Perm (l++a):=by
 induction l with|nil=>intro a;exact List.Perm.refl _|cons c l b=>intro a;refine(b _).trans ?_;refine(List.Perm.append_left l (ig c a)).trans ?_;exact List.perm_middle
theorem J7(l:List Ch):(m8 l).Perm l:=by have:=lo l [];rwa[List.append_nil]at this
abbrev J1(l:List Ch):Prop:=l.Pairwise (fun a b=>a.1<b.1)
theorem oC(c:Ch)(l:List Ch)(h:J1 l)(f:∀d∈l,d.1≠c.1):J1 (eq c l):=by
 induction l with
 |nil=>simp[eq,J1]
 |cons d l j=>
  unfold eq;have b:=List.pairwise_cons.1 h;split
  ·rename_i g;refine List.pairwise_cons.2 ⟨fun e a=>?_,j b.2 fun e a=>f e (LP _ a)⟩;rcases List.mem_cons.1 ((ig c l).mem_iff.1 a)with rfl|a
   ·exact g
   ·exact b.1 e a
  ·rename_i g;have i:c.1<d.1:=by have:=f d List.mem_cons_self;omega
   refine List.pairwise_cons.2 ⟨fun e a=>?_,h⟩;rcases List.mem_cons.1 a with rfl|a
   ·exact i
   ·have:=b.1 e a;omega
theorem mU(l:List Ch)(h:(l.map (·.1)).Nodup):J1 (m8 l):=by
 have:∀(l a:List Ch),J1 a->((a++l).map (·.1)).Nodup->J1 (l.foldl (fun a c=>eq c a) a):=by
  intro l
  induction l with|nil=>intro a h _;exact h|cons c l g=>intro a h b;have f:((eq c a++l).map (·.1)).Perm ((a++c::l).map (·.1)):=List.Perm.map _ ((List.Perm.append_right l (ig c a)).trans (List.perm_middle.symm));refine g _ (oC c a h fun d e q=>?_) (f.nodup_iff.2 b);rw[List.map_append,List.nodup_append]at b;exact b.2.2 d.1 (List.mem_map.2 ⟨d,e,rfl⟩) c.1 (by simp) q
 exact this l [] List.Pairwise.nil (by simpa using h)
theorem rising_unique:∀(a b:List Ch),J1 a->J1 b->a.Perm b->a=b
 | [],b,_,_,hp=>(List.Perm.nil_eq hp)
 |c::a,[],_,_,hp=>absurd hp.symm (by simp)
 |c::a,d::b,ha,hb,hp=>by
  have h1:=List.pairwise_cons.1 ha;have h2:=List.pairwise_cons.1 hb;have e:c=d:=by
   rcases List.mem_cons.1 (hp.mem_iff.1 (List.mem_cons_self:c∈c::a))with q|q
   ·exact q
   ·rcases List.mem_cons.1 (hp.mem_iff.2 (List.mem_cons_self:d∈d::b))with z|z
    ·exact z.symm
    ·have:=h2.1 c q;have:=h1.1 d z;omega
  subst e;rw[rising_unique a b h1.2 h2.2 (List.Perm.cons_inv hp)]
theorem tT(l:List Ch):∀a:List Ch,checkCh a l=0->(a.map (·.1)).Nodup->((a++l).map (·.1)).Nodup∧∀c∈l,c.1≠0:=by
 induction l with
 |nil=>intro a _ e;exact⟨by simpa using e,fun c j=>by simp at j⟩
 |cons c l p=>
  intro a h e;unfold checkCh at h;split at h
  ·omega
  ·split at h
   ·omega
   ·rename_i i m;have o:c.1 ∉ a.map (·.1):=by intro q;obtain⟨d,b,k⟩:=List.mem_map.1 q;apply m;unfold X1;rw[List.any_eq_true];exact⟨d,b,by simpa using k⟩
    have n:((a++[c]).map (·.1)).Nodup:=by rw[List.map_append,List.nodup_append];refine⟨e,by simp,fun x hx y f q=>?_⟩;simp at f;subst f;exact o (q▸hx)
    obtain⟨g,r⟩:=p _ h n;rw[List.append_assoc]at g;refine⟨g,fun d b=>?_⟩;rcases List.mem_cons.1 b with rfl|b
    ·exact i
    ·exact r d b
def tableCh:List Ch->List UInt8
 | []=>[]
 |c::l=>m9 c.1 4++m9 c.2.size 4++tableCh l
def dataCh:List Ch->List UInt8
 | []=>[]
 |c::l=>c.2.data.toList++dataCh l
def magicC:List UInt8:=[80,68,71,67,1]
def lq(l:List Ch):List UInt8:=magicC++m9 l.length 1++tableCh l++dataCh l
def er(l:List Ch):ByteArray:=J9 ⟨(lq (m8 l)).toArray⟩
def s7(l:List Ch):Value:=if t7 l=0 then .tuple #[.string (er l),.int .i64 0]else .tuple #[.string ⟨#[]⟩,.int .i64 (t7 l:Nat)]
theorem fO(a b:List Ch):tableCh (a++b)=tableCh a++tableCh b:=by
 induction a with|nil=>rfl|cons c a d=>simp[tableCh,d]
theorem gO(a b:List Ch):dataCh (a++b)=dataCh a++dataCh b:=by
 induction a with|nil=>rfl|cons c a d=>simp[dataCh,d]
theorem M9(l:List Ch):(tableCh l).length=8*l.length:=by
 induction l with|nil=>rfl|cons c l a=>simp[tableCh,a,j6];omega
theorem dV(l:List Ch):(dataCh l).length=dataSize l:=by
 induction l with|nil=>rfl|cons c l a=>simp[dataCh,dataSize,a]
theorem dW{a b:List Ch}(h:a.Perm b):dataSize a=dataSize b:=by
 induction h with|nil=>rfl|cons c _ g=>simp[dataSize,g]|swap c d l=>simp[dataSize];omega|trans _ _ e f=>exact e.trans f
def Ew(l:List Ch):Prop:=∀c∈l,c.1<4294967296∧c.2.size<=140737488355328
def S9(c:Ch):List Ch->Nat
 | []=>0
 |d::l=>if d.1<c.1 then S9 c l+1 else 0
theorem zr(c:Ch)(l:List Ch):S9 c l<=l.length:=by
 induction l with|nil=>simp[S9]|cons d l a=>unfold S9;split<;>simp;omega
theorem zu(c:Ch)(l:List Ch):eq c l=l.take (S9 c l)++c::l.drop (S9 c l):=by
 induction l with
 |nil=>rfl
 |cons d l a=>
  unfold eq S9;split
  ·simp[a]
  ·simp
theorem qM(c:Ch):∀(l:List Ch)(n:Nat)(d:Ch),n<S9 c l->l[n]?=some d->d.1<c.1
 | [],n,d,h,hd=>by simp[S9]at h
 |e::l,0,d,h,hd=>by
  unfold S9 at h;split at h
  ·simp at hd;subst hd;assumption
  ·omega
 |e::l,n+1,d,h,hd=>by
  unfold S9 at h;split at h
  ·exact qM c l n d (by omega) (by simpa using hd)
  ·omega
theorem qN(c:Ch):∀(l:List Ch)(d:Ch),l[S9 c l]?=some d->¬d.1<c.1
 | [],d,hd=>by simp at hd
 |e::l,d,hd=>by
  unfold S9 at hd;split at hd
  ·exact qN c l d (by simpa using hd)
  ·simp at hd;subst hd;assumption
theorem gP(a b:List Ch):ccells (a++b)=ccells a++ccells b:=by
 induction a with|nil=>rfl|cons c a d=>simp[ccells,d]
theorem qO(l:List Ch)(n:Nat):(ccells l).take (n*2)=ccells (l.take n):=by
 induction l generalizing n with
 |nil=>simp[ccells]
 |cons c l a=>
  cases n with
  |zero=>simp[ccells]
  |succ n=>
   have e:(n+1)*2=n*2+1+1:=by omega
   rw[e];simp[ccells,a]
theorem qP(l:List Ch)(n:Nat):(ccells l).drop (n*2)=ccells (l.drop n):=by
 induction l generalizing n with
 |nil=>simp[ccells]
 |cons c l a=>
  cases n with
  |zero=>simp[ccells]
  |succ n=>
   have e:(n+1)*2=n*2+1+1:=by omega
   rw[e];simp[ccells,a]
theorem qQ(l:List Ch)(j:Nat)(c:Ch)(h:l[j]?=some c):m8 (l.take (j+1))=eq c (m8 (l.take j)):=by unfold m8;rw[List.take_add_one,h,List.foldl_append];rfl
theorem Q6(l:List Ch):(m8 l).length=l.length:=(J7 l).length_eq
theorem fP{w:World}{S:Nat->Prop}{e:TypeId}{size:Nat}{v:Value}{xs:List Value}{n:Nat}(h:Sl w S e size v xs n):Sl w (fun b=>S b∧b<w.heap.size) e size v xs n:=by
 refine⟨h.1,?_⟩;rcases h.2 with h|⟨g,off,cap,a,h1,h2,h3,h4⟩
 ·exact .inl h
 ·exact .inr ⟨g,off,cap,a,h1,⟨h2,i6 h3⟩,h3,h4⟩
theorem ih(l:List Ch):∀a∈ccells l,a.oneCell'=true:=by intro a d;obtain⟨j,b⟩:=LM d;obtain⟨i,c,e,⟨_,rfl⟩|⟨_,rfl⟩⟩:=jt l j a b<;>rfl
theorem DK(c:Ch)(w:World):Src prog 2 273 (.slice (some ⟨w.heap.size,0,none⟩) 1 1) 1 (ccells [c]) (w.alloc (.cells #[.int .u32 c.1,.string c.2] 285)):=by
 refine Src.ofSlice _ underlying273 ⟨w.heap.size,0,none⟩ 1 1 _ rfl (fun j b a=>?_) (ih _);rw[Addr.add_lit,Nat.zero_add];refine g9 (heap_alloc_last w _) j b ?_;rcases j with _|_|j
 ·simpa[ccells]using a
 ·simpa[ccells]using a
 ·simp[ccells]at a
def zv(w:World)(l:List Ch)(g:Nat)(v i:Value)(wr:World):Prop:=∃j:Nat,j+g=l.length∧i=.int .i64 j∧Sl wr (fun b=>w.heap.size<=b) 285 2 v (ccells (m8 (l.take j))) j∧TF w wr
def Ex(d wr:World)(c:Ch)(a:List Ch)(g:Nat)(i:Value)(b:World):Prop:=∃n:Nat,n+g=S9 c a∧i=.int .i64 n∧TF wr b
theorem tU(a:Option Addr)(cap:Nat)(l:List Ch)(w:World)(h:dU w a cap l)(hl:l.length<=100000):
  CZ 327 #[.slice a l.length cap] w fun e w'=>∃v,e=.returned v∧Sl w' (fun b=>w.heap.size<=b) 285 2 v (ccells (m8 l)) l.length∧TF w w':=by
 have H:Hid (dU w a cap l):=h;obtain⟨L,G⟩:=EX l.length;have r:Hid (L=l.length):=G;rw[<-G];have A:Hid (L<=100000):=G▸hl;clear h G hl;go_enter func327,ntmps327;go_wp2;have HS:Hid (zv w l L (.slice none 0 0) (.int .i64 0) w):=⟨0,by rw[r.o,Nat.zero_add],rfl,Sl.nil _ _ _ _,TQ⟩;go_loopg[3,4] L (fun g v i wr=>zv w l g v i wr)
 case atStart=>exact HS.o
 case round=>
  obtain⟨j,ad,rfl,t,ht⟩:=hrel;have T:Hid (TF w wr):=ht;have Q:Hid (j+gk=l.length):=ad;clear ht ad HS;by_cases ap:j<L
  ·obtain⟨c,I⟩:∃c,l[j]?=some c:=⟨_,LB (by rw[<-r.o];exact ap)⟩;obtain⟨f,M⟩:=EX (m8 (l.take j));have ho:f.length=j:=by rw[M,Q6,List.length_take];have:=(LA.1 I).1;omega
   rw[<-M]at t;have y:Hid (f=m8 (l.take j)∧f.length=j∧l[j]?=some c):=⟨M,ho,I⟩;obtain⟨b,off,rfl,hbw,c0,c1⟩:=fM (H.o.turned T.o) j c I;obtain⟨oa,ai,rfl,aq,ar⟩:=t.value;have V:Hid (Sl wr (fun b=>w.heap.size<=b) 285 2 (.slice oa j ai) (ccells f) j):=t;have B:Hid (b<w.heap.size):=by obtain⟨b2,aG,p,u,-⟩:=H.o.2.2.2 (by have:=r.o;omega);simp at p;rw[p.1];exact u
   clear M ho I t;go_wp2;obtain⟨wo,rfl⟩:∃x:World,x=wr:=⟨wr,rfl⟩;go_loopg[5] (S9 c f) (fun g i wq=>Ex w wo c f g i wq)
   case atStart=>exact⟨0,Nat.zero_add _,rfl,TQ⟩
   case round=>
    obtain⟨n,af,rfl,ah⟩:=hrel;have TQ:Hid (TF wo wr):=ah;have R:Hid (n+gk=S9 c f):=af;have Z:=zr c f;rw[y.o.2.1]at Z;have aj:wr.cell? ⟨b,off+j*2,none⟩=some (.int .u32 c.1):=by rw[World.cell?_of_block (w':=wr) (TQ.o.block b hbw fun q=>q)];exact c0
    have ak:wr.cell? ⟨b,off+j*2+1,none⟩=some (.string c.2):=by rw[World.cell?_of_block (w':=wr) (TQ.o.block b hbw fun q=>q)];exact c1
    have aa:b<wr.heap.size:=LC hbw TQ.o.size;clear ah af c0 c1 hbw;by_cases K:n<S9 c f
    ·obtain⟨d,W⟩:∃d,f[n]?=some d:=⟨_,LB (by rw[y.o.2.1];omega)⟩;have an:=qM c f n d K W;have C:n<j:=by omega
     obtain⟨g,o2,ax,hv,-,-,-,J,-,X⟩:=(V.o.turned TQ.o fun _ _ q=>q).opens (by omega);injection hv with F e2 e3;subst F;subst e3;have d0:=(J (n*2) (by omega)).trans (ccells_get f n d W).1;have D:wrap64 ((n:Int)+1)=((n+1:Nat):Int):=by have:=A.o;simp[wrap64];omega
     have S:Hid (wrap64 ((n:Int)+1)=((n+1:Nat):Int)):=D;have aD:decide (d.1<c.1)=true:=by simp;omega
     have aE:decide ((n:Int)<(j:Int))=true:=by simp;omega
     have s:Hid (n<S9 c f):=K;clear J D Z K an W;go_wp2;go_region
     all_goals go_wp2
     all_goals
      go_roundg (gk-1)
      case measure=>have:=R.o;have:=s.o;omega
      case rel=>exact⟨n+1,by have:=R.o;have:=s.o;omega,by rw[S.o],TQ.o.tr TD⟩
    ·have ag:n=S9 c f:=by have:=R.o;omega
     have s:Hid (n=S9 c f):=ag;clear K ag;have ab:(n=j∧decide ((n:Int)<(j:Int))=false)∨(∃d,n<j∧f[n]?=some d∧decide ((n:Int)<(j:Int))=true∧decide (d.1<c.1)=false):=by
      rcases Nat.lt_or_ge n j with q|q
      ·refine .inr ⟨f[n]'(by rw[y.o.2.1];exact q),q,LB _,by simp;omega,?_⟩;have:=qN c f (f[n]'(by rw[y.o.2.1];exact q)) (by rw[<-s.o];exact LB _);simpa using this
      ·exact .inl ⟨by have:=s.o;omega,by simp;omega⟩
     have C:n<=j:=by have:=s.o;omega
     have U:=fP (V.o.turned TQ.o fun _ _ q=>q);obtain⟨v1,r1,s1⟩:=U.run_to (P:=prog) underlying273 info31 n .i64 n rfl C;obtain⟨v2,r2,s2⟩:=U.run_from (P:=prog) underlying273 info31 n .i64 n rfl C;rw[qO]at s1;rw[qP]at s2;have S1:Hid (Sl wr.drew _ 285 2 v1 (ccells (f.take n)) n):=s1.drew;have S2:Hid (Sl wr.drew _ 285 2 v2 (ccells (f.drop n)) (j-n)):=s2.drew;have m1:Hid (0+n<=maxLen∧(0+n)*24<=140737488355328):=(by have:=A.o;simp only[maxLen];omega:0+n<=maxLen∧(0+n)*24<=140737488355328);have m2:Hid (n+1<=maxLen∧(n+1)*24<=140737488355328):=(by have:=A.o;simp only[maxLen];omega:n+1<=maxLen∧(n+1)*24<=140737488355328);have m3:Hid (n+1+(j-n)<=maxLen∧(n+1+(j-n))*24<=140737488355328):=(by have:=A.o;simp only[maxLen];omega:n+1+(j-n)<=maxLen∧(n+1+(j-n))*24<=140737488355328);have D:wrap64 ((j:Int)+1)=((j+1:Nat):Int):=by have:=A.o;simp[wrap64];omega
     have S:Hid (wrap64 ((j:Int)+1)=((j+1:Nat):Int)):=D;clear U s1 s2 D Z;have al:(decide ((n:Int)<(j:Int))=false)∨(∃d g o2,n<j∧oa=some ⟨g,o2,none⟩∧g<wr.heap.size∧wr.cell? ⟨g,o2+n*2,none⟩=some (.int .u32 d.1)∧decide ((n:Int)<(j:Int))=true∧decide ((d:Ch).1<c.1)=false):=by
      rcases ab with⟨_,q⟩|⟨d,p,u,m,q4⟩
      ·exact .inl q
      ·obtain⟨g,o2,ax,hv,-,-,-,J,-,X⟩:=(V.o.turned TQ.o fun _ _ q=>q).opens (by omega);injection hv with F e2 e3;exact .inr ⟨d,g,o2,p,F,X,(J (n*2) (by omega)).trans (ccells_get f n d u).1,m,q4⟩
     have HJ:Hid (n<=j):=C;have aC:(0:Int)<=(n:Int):=by omega
     clear ab C;rcases al with ac|⟨d,g,o2,aF,rfl,X,d0,ac,aB⟩
     all_goals have am:=ac
     all_goals simp only[Int.ofNat_lt]at am
     all_goals go_wp2
     all_goals go_region
     all_goals
      go_wp2_with(at_builtin;first|(refine m7 rfl _ _ 273 273 rfl (Sl.nil _ (fun _=>False) 285 2) underlying273 info31 rfl (by decide) rfl v1 rfl (S1.o.src underlying273 (ih _)) m1.o.1 m1.o.2 ?_;intro x3 k p N;rw[Nat.zero_add,List.nil_append]at p;obtain⟨a3,ay,au,-,-⟩:=p.value;subst au;have e0:k.cell? ⟨b,off+j*2,none⟩=some (.int .u32 c.1):=(by rw[World.cell?_of_block (w:=wr.drew) (w':=k) (N.block b aa fun q=>q)];exact aj);have F:k.cell? ⟨b,off+j*2+1,none⟩=some (.string c.2):=(by rw[World.cell?_of_block (w:=wr.drew) (w':=k) (N.block b aa fun q=>q)];exact ak);have Q1:Hid (Sl k _ 285 2 _ _ _∧d7 _ wr.drew k):=⟨p,N⟩;clear p N)|(refine m7 rfl _ _ 273 273 rfl (Q1.o.1.turned (d7.alloc (fun _=>False) _ (.cells #[.int .u32 c.1,.string c.2] 285)) (fun _ _ q=>q)) underlying273 info31 rfl (by decide) rfl (.slice (some ⟨k.heap.size,0,none⟩) 1 1) rfl (DK c k) m2.o.1 m2.o.2 ?_;intro x4 O u t2;obtain⟨a4,az,av,-,-⟩:=u.value;subst av;have E:Hid (Sl O _ 285 2 _ _ _∧d7 _ (k.alloc (.cells #[.int .u32 c.1,.string c.2] 285)) O):=⟨u,t2⟩;clear u t2)|(refine m7 rfl _ _ 273 273 rfl E.o.1 underlying273 info31 rfl (by decide) rfl v2 rfl ((S2.o.turned (T:=fun b=>wr.drew.heap.size<=b) ((Q1.o.2.mono fun i Y q=>q.elim).tr ((d7.alloc (fun b=>wr.drew.heap.size<=b) k (.cells #[.int .u32 c.1,.string c.2] 285)).trans (E.o.2.mono (S':=fun b=>wr.drew.heap.size<=b) fun i Y q=>q.elim (fun q=>q.elim) id) fun _ _ q=>q)) fun b q z=>by have:=q.2;have h3:wr.drew.heap.size=wr.heap.size:=rfl;omega).src underlying273 (ih _)) m3.o.1 m3.o.2 ?_;intro x5 w5 m t3;obtain⟨a5,aA,aw,-,-⟩:=m.value;subst aw;have Q3:Hid (Sl w5 _ 285 2 _ _ _∧d7 _ O w5):=⟨m,t3⟩;clear m t3))
     all_goals
      go_roundg (l.length-j-1)
      case measure=>have:=Q.o;have:=r.o;omega
      case rel=>
       have ae:n+1+(j-n)=j+1:=by have:=HJ.o;omega
       have m:=Q3.o.1;have ao:ccells (f.take n)++ccells [c]++ccells (f.drop n)=ccells (m8 (l.take (j+1))):=by rw[qQ l j c y.o.2.2,<-y.o.1,zu,<-s.o,<-gP,<-gP];simp
       rw[ao]at m;have z1:=T.o.size;have z2:=TQ.o.size;have z3:=Q1.o.2.size;have z4:=E.o.2.size;have z5:wr.drew.heap.size=wr.heap.size:=rfl;have z6:(k.alloc (.cells #[.int .u32 c.1,.string c.2] 285)).heap.size=k.heap.size+1:=by simp
       refine⟨j+1,by have:=Q.o;have:=r.o;omega,by rw[S.o],?_,?_⟩
       ·rw[ae]at m;rw[<-ae]at m ⊢;exact m.widen fun b q=>by rcases q with(((q|q)|q)|q)<;>first|exact q.elim|omega
       ·have k1:d7 (fun _=>False) w k:=((T.o.trans TQ.o fun _ _ q=>q).trans (d7.drew (fun _=>False) _) fun _ _ q=>q).trans Q1.o.2 fun _ _ q=>q
        have k2:=k1.tr (d7.alloc (fun _=>False) k (.cells #[.int .u32 c.1,.string c.2] 285));have k3:TF w O:=k2.comp E.o.2 fun i Y q=>by rcases q with q|(q|q)<;>first|exact q.elim|exact q|omega
        exact k3.comp Q3.o.2 fun i Y q=>by rcases q with q|((q|q)|q)<;>first|exact q.elim|exact q|omega
  ·have hj:j=L:=by have:=Q.o;have:=r.o;omega
   subst hj;have HE:Hid (Sl wr (fun b=>w.heap.size<=b) 285 2 u3 (ccells (m8 l)) j):=by have:=t;rwa[LQ (by have:=r.o;omega)]at this
   obtain⟨oa,ai,rfl,aq,ar⟩:=t.value;clear t;go_wp2;go_ret;exact⟨_,rfl,HE.o,T.o⟩
theorem infoC5:(prog.info? 5).map (fun i=>(i.zero,i.size,i.bytes))=some (some (.int .u8 0),1,1):=by kernel_rfl
theorem Cs{a:Option Addr}{n cap:Nat}{xs:List Value}(w:World)(c:∀w',TF w w'->Src prog 1 83 (.slice a n cap) n xs w')(d:a=none->n=0)(h:n<=1000000000):
  CZ 90 #[.slice a n cap] w fun e w'=>∃v,e=.returned v∧Sl w' (fun b=>w.heap.size<=b) 5 1 v xs n∧TF w w':=by
 cases a with
 |none=>
  obtain rfl:=d rfl;have g:=(c w TQ).newsLen;have hx:xs=[]:=LO (by simpa using g);subst hx;have k:∀w',(binOp .eql 83 (.slice none 0 cap) (.slice none 0 0)).run prog w'=.ok (.bool true) w':=fun w'=>Lib.run_eql_slice_nil w' 83 5 none 0 cap 0 0 underlying83
  clear c d g h;go_enter func90,ntmps90;go_wp2;go_ret;exact⟨_,rfl,Sl.nil _ _ _ _,TQ⟩
 |some ad=>
  have A1:Hid (Src prog 1 83 (.slice (some ad) n cap) n xs (w.alloc (.cells #[] 5))):=c _ TA;have k:∀w',(binOp .eql 83 (.slice (some ad) n cap) (.slice none 0 0)).run prog w'=.ok (.bool false) w':=fun w'=>Lib.run_eql_slice_nil w' 83 5 (some ad) n cap 0 0 underlying83
  have j:Hid (Sl (w.alloc (.cells #[] 5)) (· =w.heap.size) 5 1 (.slice (some ⟨w.heap.size,0,none⟩) 0 0) [] 0):=⟨rfl,.inr ⟨w.heap.size,0,0,#[],rfl,rfl,i8 w _,LS _,by simp[maxLen],by simp,by simp⟩⟩;have h1:Hid (0+n<=maxLen):=(by simp only[maxLen];omega:0+n<=maxLen);have h2:Hid ((0+n)*1<=140737488355328):=(by omega:(0+n)*1<=140737488355328);clear c d h;go_enter func90,ntmps90;go_wp2_with(at_builtin;refine m7 rfl _ _ 83 83 rfl j.o underlying83 infoC5 rfl (by decide) rfl (.slice (some ad) n cap) rfl A1.o h1.o h2.o ?_;intro u x f l;obtain⟨p,r,m,-,-⟩:=f.value;subst m);go_ret;refine⟨_,rfl,?_,(d7.alloc (fun _=>False) w (.cells #[] 5)).comp l fun i s q=>q.elim id fun q=>by omega⟩;rw[List.nil_append]at f;have t:(w.alloc (.cells #[] 5)).heap.size=w.heap.size+1:=by simp
  have:=f.widen (T:=fun b=>w.heap.size<=b) fun b q=>q.elim (fun q=>by omega) fun q=>by omega
  rw[Nat.zero_add]at this;simpa using this
theorem infoC3:(prog.info? 3).map (fun i=>(i.zero,i.size,i.bytes))=some (some (.int .i64 0),1,8):=by kernel_rfl
theorem dj{a:Option Addr}{n cap:Nat}{xs:List Value}(w:World)(c:∀w',TF w w'->Src prog 1 41 (.slice a n cap) n xs w')(d:a=none->n=0)(h:n<=1000000000):
  CZ 65 #[.slice a n cap] w fun e w'=>∃v,e=.returned v∧Sl w' (fun b=>w.heap.size<=b) 3 1 v xs n∧TF w w':=by
 cases a with
 |none=>
  obtain rfl:=d rfl;have g:=(c w TQ).newsLen;have hx:xs=[]:=LO (by simpa using g);subst hx;have k:∀w',(binOp .eql 41 (.slice none 0 cap) (.slice none 0 0)).run prog w'=.ok (.bool true) w':=fun w'=>Lib.run_eql_slice_nil w' 41 3 none 0 cap 0 0 underlying41
  clear c d g h;go_enter func65,ntmps65;go_wp2;go_ret;exact⟨_,rfl,Sl.nil _ _ _ _,TQ⟩
 |some ad=>
  have A1:Hid (Src prog 1 41 (.slice (some ad) n cap) n xs (w.alloc (.cells #[] 3))):=c _ TA;have k:∀w',(binOp .eql 41 (.slice (some ad) n cap) (.slice none 0 0)).run prog w'=.ok (.bool false) w':=fun w'=>Lib.run_eql_slice_nil w' 41 3 (some ad) n cap 0 0 underlying41
  have j:Hid (Sl (w.alloc (.cells #[] 3)) (· =w.heap.size) 3 1 (.slice (some ⟨w.heap.size,0,none⟩) 0 0) [] 0):=⟨rfl,.inr ⟨w.heap.size,0,0,#[],rfl,rfl,i8 w _,LS _,by simp[maxLen],by simp,by simp⟩⟩;have h1:Hid (0+n<=maxLen):=(by simp only[maxLen];omega:0+n<=maxLen);have h2:Hid ((0+n)*8<=140737488355328):=(by omega:(0+n)*8<=140737488355328);clear c d h;go_enter func65,ntmps65;go_wp2_with(at_builtin;refine m7 rfl _ _ 41 41 rfl j.o underlying41 infoC3 rfl (by decide) rfl (.slice (some ad) n cap) rfl A1.o h1.o h2.o ?_;intro u x f l;obtain⟨p,r,m,-,-⟩:=f.value;subst m);go_ret;refine⟨_,rfl,?_,(d7.alloc (fun _=>False) w (.cells #[] 3)).comp l fun i s q=>q.elim id fun q=>by omega⟩;rw[List.nil_append]at f;have t:(w.alloc (.cells #[] 3)).heap.size=w.heap.size+1:=by simp
  have:=f.widen (T:=fun b=>w.heap.size<=b) fun b q=>q.elim (fun q=>by omega) fun q=>by omega
  rw[Nat.zero_add]at this;simpa using this
theorem infoC96:(prog.info? 96).map (fun i=>(i.zero,i.size,i.bytes))=some (some (.agg #[.string ⟨#[]⟩,.int .u32 0]),2,24):=by kernel_rfl
theorem lu{a:Option Addr}{n cap:Nat}{xs:List Value}(w:World)(c:∀w',TF w w'->Src prog 2 65 (.slice a n cap) n xs w')(d:a=none->n=0)(h:n<=1000000000):
  CZ 69 #[.slice a n cap] w fun e w'=>∃v,e=.returned v∧Sl w' (fun b=>w.heap.size<=b) 96 2 v xs n∧TF w w':=by
 cases a with
 |none=>
  obtain rfl:=d rfl;have g:=(c w TQ).newsLen;have hx:xs=[]:=LO (by simpa using g);subst hx;have k:∀w',(binOp .eql 65 (.slice none 0 cap) (.slice none 0 0)).run prog w'=.ok (.bool true) w':=fun w'=>Lib.run_eql_slice_nil w' 65 96 none 0 cap 0 0 underlying65
  clear c d g h;go_enter func69,ntmps69;go_wp2;go_ret;exact⟨_,rfl,Sl.nil _ _ _ _,TQ⟩
 |some ad=>
  have A1:Hid (Src prog 2 65 (.slice (some ad) n cap) n xs (w.alloc (.cells #[] 96))):=c _ TA;have k:∀w',(binOp .eql 65 (.slice (some ad) n cap) (.slice none 0 0)).run prog w'=.ok (.bool false) w':=fun w'=>Lib.run_eql_slice_nil w' 65 96 (some ad) n cap 0 0 underlying65
  have j:Hid (Sl (w.alloc (.cells #[] 96)) (· =w.heap.size) 96 2 (.slice (some ⟨w.heap.size,0,none⟩) 0 0) [] 0):=⟨rfl,.inr ⟨w.heap.size,0,0,#[],rfl,rfl,i8 w _,LS _,by simp[maxLen],by simp,by simp⟩⟩;have h1:Hid (0+n<=maxLen):=(by simp only[maxLen];omega:0+n<=maxLen);have h2:Hid ((0+n)*24<=140737488355328):=(by omega:(0+n)*24<=140737488355328);clear c d h;go_enter func69,ntmps69;go_wp2_with(at_builtin;refine m7 rfl _ _ 65 65 rfl j.o underlying65 infoC96 rfl (by decide) rfl (.slice (some ad) n cap) rfl A1.o h1.o h2.o ?_;intro u x f l;obtain⟨p,r,m,-,-⟩:=f.value;subst m);go_ret;refine⟨_,rfl,?_,(d7.alloc (fun _=>False) w (.cells #[] 96)).comp l fun i s q=>q.elim id fun q=>by omega⟩;rw[List.nil_append]at f;have t:(w.alloc (.cells #[] 96)).heap.size=w.heap.size+1:=by simp
  have:=f.widen (T:=fun b=>w.heap.size<=b) fun b q=>q.elim (fun q=>by omega) fun q=>by omega
  rw[Nat.zero_add]at this;simpa using this
theorem infoC120:(prog.info? 120).map (fun i=>(i.zero,i.size,i.bytes))=some (some (.agg #[.int .i64 0,.int .i64 0,.int .u32 0]),3,24):=by kernel_rfl
theorem qR{a:Option Addr}{n cap:Nat}{xs:List Value}(w:World)(c:∀w',TF w w'->Src prog 3 113 (.slice a n cap) n xs w')(d:a=none->n=0)(h:n<=1000000000):
  CZ 134 #[.slice a n cap] w fun e w'=>∃v,e=.returned v∧Sl w' (fun b=>w.heap.size<=b) 120 3 v xs n∧TF w w':=by
 cases a with
 |none=>
  obtain rfl:=d rfl;have g:=(c w TQ).newsLen;have hx:xs=[]:=LO (by simpa using g);subst hx;have k:∀w',(binOp .eql 113 (.slice none 0 cap) (.slice none 0 0)).run prog w'=.ok (.bool true) w':=fun w'=>Lib.run_eql_slice_nil w' 113 120 none 0 cap 0 0 underlying113
  clear c d g h;go_enter func134,ntmps134;go_wp2;go_ret;exact⟨_,rfl,Sl.nil _ _ _ _,TQ⟩
 |some ad=>
  have A1:Hid (Src prog 3 113 (.slice (some ad) n cap) n xs (w.alloc (.cells #[] 120))):=c _ TA;have k:∀w',(binOp .eql 113 (.slice (some ad) n cap) (.slice none 0 0)).run prog w'=.ok (.bool false) w':=fun w'=>Lib.run_eql_slice_nil w' 113 120 (some ad) n cap 0 0 underlying113
  have j:Hid (Sl (w.alloc (.cells #[] 120)) (· =w.heap.size) 120 3 (.slice (some ⟨w.heap.size,0,none⟩) 0 0) [] 0):=⟨rfl,.inr ⟨w.heap.size,0,0,#[],rfl,rfl,i8 w _,LS _,by simp[maxLen],by simp,by simp⟩⟩;have h1:Hid (0+n<=maxLen):=(by simp only[maxLen];omega:0+n<=maxLen);have h2:Hid ((0+n)*24<=140737488355328):=(by omega:(0+n)*24<=140737488355328);clear c d h;go_enter func134,ntmps134;go_wp2_with(at_builtin;refine m7 rfl _ _ 113 113 rfl j.o underlying113 infoC120 rfl (by decide) rfl (.slice (some ad) n cap) rfl A1.o h1.o h2.o ?_;intro u x f l;obtain⟨p,r,m,-,-⟩:=f.value;subst m);go_ret;refine⟨_,rfl,?_,(d7.alloc (fun _=>False) w (.cells #[] 120)).comp l fun i s q=>q.elim id fun q=>by omega⟩;rw[List.nil_append]at f;have t:(w.alloc (.cells #[] 120)).heap.size=w.heap.size+1:=by simp
  have:=f.widen (T:=fun b=>w.heap.size<=b) fun b q=>q.elim (fun q=>by omega) fun q=>by omega
  rw[Nat.zero_add]at this;simpa using this
theorem infoC123:(prog.info? 123).map (fun i=>(i.zero,i.size,i.bytes))=some (some (.agg #[.int .i64 0,.int .i64 0,.int .i64 0,.int .i64 0,.int .u32 0,.slice none 0 0]),6,64):=by kernel_rfl
theorem oD{a:Option Addr}{n cap:Nat}{xs:List Value}(w:World)(c:∀w',TF w w'->Src prog 6 114 (.slice a n cap) n xs w')(d:a=none->n=0)(h:n<=1000000000):
  CZ 137 #[.slice a n cap] w fun e w'=>∃v,e=.returned v∧Sl w' (fun b=>w.heap.size<=b) 123 6 v xs n∧TF w w':=by
 cases a with
 |none=>
  obtain rfl:=d rfl;have g:=(c w TQ).newsLen;have hx:xs=[]:=LO (by simpa using g);subst hx;have k:∀w',(binOp .eql 114 (.slice none 0 cap) (.slice none 0 0)).run prog w'=.ok (.bool true) w':=fun w'=>Lib.run_eql_slice_nil w' 114 123 none 0 cap 0 0 underlying114
  clear c d g h;go_enter func137,ntmps137;go_wp2;go_ret;exact⟨_,rfl,Sl.nil _ _ _ _,TQ⟩
 |some ad=>
  have A1:Hid (Src prog 6 114 (.slice (some ad) n cap) n xs (w.alloc (.cells #[] 123))):=c _ TA;have k:∀w',(binOp .eql 114 (.slice (some ad) n cap) (.slice none 0 0)).run prog w'=.ok (.bool false) w':=fun w'=>Lib.run_eql_slice_nil w' 114 123 (some ad) n cap 0 0 underlying114
  have j:Hid (Sl (w.alloc (.cells #[] 123)) (· =w.heap.size) 123 6 (.slice (some ⟨w.heap.size,0,none⟩) 0 0) [] 0):=⟨rfl,.inr ⟨w.heap.size,0,0,#[],rfl,rfl,i8 w _,LS _,by simp[maxLen],by simp,by simp⟩⟩;have h1:Hid (0+n<=maxLen):=(by simp only[maxLen];omega:0+n<=maxLen);have h2:Hid ((0+n)*64<=140737488355328):=(by omega:(0+n)*64<=140737488355328);clear c d h;go_enter func137,ntmps137;go_wp2_with(at_builtin;refine m7 rfl _ _ 114 114 rfl j.o underlying114 infoC123 rfl (by decide) rfl (.slice (some ad) n cap) rfl A1.o h1.o h2.o ?_;intro u x f l;obtain⟨p,r,m,-,-⟩:=f.value;subst m);go_ret;refine⟨_,rfl,?_,(d7.alloc (fun _=>False) w (.cells #[] 123)).comp l fun i s q=>q.elim id fun q=>by omega⟩;rw[List.nil_append]at f;have t:(w.alloc (.cells #[] 123)).heap.size=w.heap.size+1:=by simp
  have:=f.widen (T:=fun b=>w.heap.size<=b) fun b q=>q.elim (fun q=>by omega) fun q=>by omega
  rw[Nat.zero_add]at this;simpa using this
end Go.Proofs.YtofcogekgcgjhaaGreatDoor
namespace Go.Proofs.YtofcogekgcgjhaaGreatDoor
open Go.RowKit Go.Mine Go.Mine.Ac Tryz
theorem Bn{D:Dk}{name:ByteArray}{k:Nat}(h:D.file name=.ok k):D.off=false∧findN D.seen name=some k:=by
 unfold Dk.file at h;cases b:D.off with
 |true=>rw[b]at h;simp at h
 |false=>
  rw[b]at h;cases a:findN D.seen name with
  |none=>rw[a]at h;simp at h
  |some j=>rw[a]at h;simp at h;exact⟨rfl,by rw[h]⟩
theorem U7{D:Dk}{name:ByteArray}{k:Nat}(h:D.file name=.error k):k≠0:=by
 unfold Dk.file at h;split at h
 ·injection h with h;omega
 ·split at h
  ·injection h with h;omega
  ·simp at h
theorem p9.live{w:World}{a:Nat->Nat}{d e c:Nat}{f:Value}{F:Nat->Nat}{D:Dk}(h:p9 w a d e c f F D){name:ByteArray}{k:Nat}(b:D.file name=.ok k):
  ∃x,D.files[k]?=some x∧D.at k=x∧I5 w a F k x:=by
 obtain⟨x,h1,h2⟩:=h.file k (.inl ⟨(name,k),S8 (Bn b).2,rfl⟩);exact⟨x,h1,by simp[Dk.at,h1],h2⟩
theorem xz{w:World}{n:Nat->Nat}{d l j:Nat}{m:Value}{F:Nat->Nat}{D:Dk}(h:p9 w n d l j m F D)(name:ByteArray):
  CZ 27 #[pt d,.string name] w fun e w'=>e=.returned (.tuple #[.string (D.read name).1,.int .i64 ((D.read name).2:Nat)])∧w=w':=by
 have b:=X3 h name;cases a:D.file name with
 |error k=>
  have i:Hid (k≠0):=U7 a;have c:Hid (D.read name=(emp,k)):=i7 (by simp[Dk.read,a]);have r:((k:Int) !=0)=true:=by have:=i.o;simp;omega
  rw[a]at b;replace b:CZ 88 #[pt d,.string name] w fun e w'=>e=.returned (.tuple #[.pointer none,.int .i64 k])∧w=w':=b
  clear h a;rw[c.o];go_enter func27,ntmps27;go_wp2_with(go_fit b;rintro e w'⟨rfl,rfl⟩);go_ret2;exact⟨rfl,rfl⟩
 |ok k=>
  obtain⟨x,h1,h2,h3⟩:=h.live a;have c:Hid (D.read name=(x.bytes,0)):=i7 (by simp[Dk.read,a,h2]);obtain⟨-,bv,f,g⟩:=h3;have p:=g9 f 1 _ rfl;have s:=i6 f;have q:=dJ (bs:=x.bytes.data.toList) (by simpa using g);rw[a]at b;replace b:CZ 88 #[pt d,.string name] w fun e w'=>e=.returned (.tuple #[pt (F k),.int .i64 0])∧w=w':=b
  clear h a h1 h2 f g;rw[c.o];go_enter func27,ntmps27;go_wp2_with(go_fit b;rintro e w'⟨rfl,rfl⟩);go_ret2;exact⟨rfl,rfl⟩
theorem zw{w:World}{f:Nat->Nat}{d b a:Nat}{c:Value}{F:Nat->Nat}{D:Dk}(h:p9 w f d b a c F D):
  CZ 53 #[pt d] w fun e w'=>e=.returned (.bool D.off)∧w=w':=by
 have g:=g9 h.blk 6 _ rfl;have i:=i6 h.blk;clear h;generalize D.off=o at *;go_enter func53,ntmps53;go_wp2;go_ret;exact⟨rfl,rfl⟩
theorem gA{d i:Type}(f:d->i)(c:∀a b,f a=f b->a=b):∀{l:List d},l.Nodup->(l.map f).Nodup
 | [],_=>by simp
 |x::l,h=>by obtain⟨h1,h2⟩:=List.nodup_cons.1 h;rw[List.map_cons,List.nodup_cons];refine⟨fun q=>?_,gA f c h2⟩;obtain⟨y,g,e⟩:=List.mem_map.1 q;exact h1 (c _ _ e▸g)
theorem lw{w:World}{b n:Nat}{m:Value->Option Value}(h:z8 KStr w b m n){F:Nat->Nat}{l:Nms}(i:∀k,m k=P4 F l k)(o:(l.map (·.1)).Nodup):n=l.length:=by
 obtain⟨f,y,h1,h2,h3,h4,p,r⟩:=h;have n1:(f.toList.map (·.key)).Nodup:=by rw[List.nodup_iff_pairwise_ne,List.pairwise_map];exact p
 have n2:((l.map (·.1)).map Value.string).Nodup:=gA _ (fun a b q=>by injection q) o;have u:(f.toList.map (·.key)).Perm ((l.map (·.1)).map Value.string):=by
  rw[List.perm_ext_iff_of_nodup n1 n2];intro k;constructor
  ·intro c;obtain⟨e,d,rfl⟩:=List.mem_map.1 c;have:=h3 e d;rw[i]at this;cases g:e.key with
   |string s=>rw[g]at this;obtain⟨j,t,-⟩:=Option.map_eq_some_iff.1 this;exact List.mem_map.2 ⟨s,List.mem_map.2 ⟨_,S8 t,rfl⟩,rfl⟩
   |_=>rw[g]at this;simp[P4]at this
  ·intro c;obtain⟨s,v,rfl⟩:=List.mem_map.1 c;obtain⟨x,hx,rfl⟩:=List.mem_map.1 v;have:=cN o (show(x.1,x.2)∈l from hx);obtain⟨e,d,c⟩:=h4 (.string x.1) (pt (F x.2)) (by rw[i];simp[P4,this]);exact List.mem_map.2 ⟨e,d,c⟩
 have:=u.length_eq;simpa[r]using this
open Classical in
theorem oE(F:Nat->Nat)(l:Nms)(c:fC)(b:∀x∈l,x.1≠emp)(k:Value):
  P4 F (changed l c) k=(if c.come=emp then(if k=.string (if c.gone=emp then c.come else c.gone)then none else P4 F l k)else if k=.string c.come then some (pt (F c.file))else if k=.string (if c.gone=emp then c.come else c.gone)then none else P4 F l k):=by
 cases k with
 |string s=>
  simp only[P4,mQ,Value.string.injEq];have a:findN l emp=none:=hH.2 fun q=>by obtain⟨x,hx,e⟩:=List.mem_map.1 q;exact b x hx e
  by_cases h1:c.come=emp
  ·rw[if_pos h1];by_cases h2:c.gone=emp
   ·rw[if_pos h2,h1];by_cases h3:s=emp<;>simp[h3,h1,h2,a]
   ·rw[if_neg h2,h1];by_cases h3:s=emp
    ·simp[h3,a]
    ·by_cases h4:s=c.gone<;>simp[h3,h4]
  ·rw[if_neg h1];by_cases h3:s=c.come
   ·simp[h3,h1]
   ·rw[if_neg h3,if_neg h3];by_cases h2:c.gone=emp
    ·rw[if_pos h2,if_neg h3,h2];by_cases h4:s=emp
     ·simp[h4,a]
     ·simp[h4]
    ·rw[if_neg h2];by_cases h4:s=c.gone<;>simp[h4]
 |_=>simp[P4]
theorem G8{w:World}{b:Nat}(o:Obj)(a:b<w.heap.size):(w.alloc o).heap[b]?=w.heap[b]?:=(d7.alloc (fun _=>False) w o).block b a id
def oF(w:World)(m:Nat)(F:Nat->Nat)(l:Nms)(c:fC)(e:Ending)(w':World):Prop:=e=.returned (.tuple #[])∧z8 KStr w' m (P4 F (changed l c)) (changed l c).length∧d7 (· =m) w w'∧w'.heap.size=w.heap.size+1∧D7 w' m
theorem Bo{w:World}{m:Nat}{F:Nat->Nat}{l:Nms}(c:fC)(h:z8 KStr w m (P4 F l) l.length)(P:D7 w m)(I:(l.map (·.1)).Nodup)(J:∀x∈l,x.1≠emp):
    CZ 89 #[.agg (J5 F c).toArray,.map (some m)] w (oF w m F l c):=by
  have s:=oE F l c J;have N:Hid (((changed l c).map (·.1)).Nodup):=gN c I;obtain⟨g,e⟩:=EX (if c.gone=emp then c.come else c.gone);obtain⟨L,C⟩:=EX (changed l c);obtain⟨D,v⟩:=EX (oF w m F l c);have M:Hid (D=oF w m F l c):=v;have X:Hid (L=changed l c):=C;rw[<-v];have H:=h.lt;have u:∀o,D7 (w.alloc o) m:=fun o=>P.congr (G8 o H)
  replace u:Hid (∀o,D7 (w.alloc o) m):=u;clear P;by_cases d:c.come=emp
  ·have q:(J5 F c).toArray=#[.string g,.string emp,.pointer none]:=by simp[J5,e,d]
   rw[q];have A:z8 KStr (w.alloc (.cells #[.string g,.string emp,.pointer none] 159)) m (P4 F l) l.length:=h.congr (G8 _ H) fun _=>rfl
   have t:Hid (∀k,P4 F (changed l c) k=(by classical exact if k=.string g then none else P4 F l k)):=i7 fun k=>by rw[s k,if_pos d,<-e]
   have U:Hid (c.come=emp):=d;clear s e C v h d q I J;go_enter func89,ntmps89;go_wp2_with(first|(at_delete;refine fE rfl _ _ 145 9 rfl 153 keyStr underlying145 A (u.o _) rfl (.string g) rfl (zd _) ?_;intro w2 n j b r;have k2:=g9 ((b.block w.heap.size (by simp) (by omega)).trans (i8 w _)) 2 _ rfl;have a:Hid (z8 KStr w2 m (fun y=>by classical exact if y=.string g then none else P4 F l y) _∧d7 (· =m) _ w2∧w2.heap.size=_∧D7 w2 m):=i7 ⟨n,b,r,j⟩;clear n b r j));go_end0;rw[M.o];have E:=lw a.o.1 (fun k=>(t.o k).symm) N.o;have p:=a.o.1;rw[E]at p;exact⟨rfl,p.congr rfl t.o,(d7.alloc (· =m) w _).tr a.o.2.1,by rw[a.o.2.2.1];simp,a.o.2.2.2⟩
  ·have q:(J5 F c).toArray=#[.string g,.string c.come,pt (F c.file)]:=by simp[J5,e,d]
   rw[q];have A:z8 KStr (w.alloc (.cells #[.string g,.string c.come,pt (F c.file)] 159)) m (P4 F l) l.length:=h.congr (G8 _ H) fun _=>rfl
   have t:Hid (∀k,P4 F (changed l c) k=(by classical exact if k=.string c.come then some (pt (F c.file))else if k=.string g then none else P4 F l k)):=i7 fun k=>by rw[s k,if_neg d,<-e]
   have U:Hid (¬c.come=emp):=d;obtain⟨z,K⟩:=EX c.come;have W:Hid (z=c.come):=K;obtain⟨f,G⟩:=EX (F c.file);have V:Hid (f=F c.file):=G;rw[<-K,<-G]at A ⊢;clear s e C v h d q I J K G;go_enter func89,ntmps89
   go_wp2_with(first
     |(at_delete;refine fE rfl _ _ 145 9 rfl 153 keyStr underlying145 A (u.o _) rfl (.string g) rfl (zd _) ?_;intro w2 n j b r
       have k0:=g9 ((b.block w.heap.size (by simp) (by omega)).trans (i8 w _)) 0 _ rfl;have k1:=g9 ((b.block w.heap.size (by simp) (by omega)).trans (i8 w _)) 1 _ rfl;have k2:=g9 ((b.block w.heap.size (by simp) (by omega)).trans (i8 w _)) 2 _ rfl;have a:Hid (z8 KStr w2 m (fun y=>by classical exact if y=.string g then none else P4 F l y) _∧d7 (· =m) _ w2∧w2.heap.size=_∧D7 w2 m):=i7 ⟨n,b,r,j⟩;clear b r j)
     |(at_mapUpdate;go_must (refine fD rfl _ _ _ 145 rfl 9 153 keyStr underlying145 n a.o.2.2.2 rfl (.string z) (pt f) rfl rfl (zd _) ?_);intro B p Q S T
       have i:Hid (z8 KStr B m _ _∧d7 (· =m) w2 B∧B.heap.size=w2.heap.size∧D7 B m):=i7 ⟨p,S,T,Q⟩;clear p S T Q))
   go_end0;rw[M.o];have O:∀k,P4 F (changed l c) k=(by classical exact if k=.string z then some (pt f)else if k=.string g then none else P4 F l k):=fun k=>by rw[t.o k,W.o,V.o]
   have E:=lw i.o.1 (fun k=>(O k).symm) N.o;have R:=i.o.1;rw[E]at R;exact⟨rfl,R.congr rfl O,((d7.alloc (· =m) w _).tr a.o.2.1).tr i.o.2.1,by rw[i.o.2.2.1,a.o.2.2.1];simp,i.o.2.2.2⟩
end Go.Proofs.YtofcogekgcgjhaaGreatDoor
