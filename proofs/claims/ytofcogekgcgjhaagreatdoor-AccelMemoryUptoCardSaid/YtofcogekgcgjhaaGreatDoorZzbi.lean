/- Packed. -/
import Derived.Lib.Strings
import Derived.Lib.Walk
import Derived.Lib.Bytealg
import Derived.Test.YtofcogekgcgjhaaGreatDoorZzar
set_option maxRecDepth 100000
set_option maxHeartbeats 8000000
namespace Go.Proofs.YtofcogekgcgjhaaGreatDoor
open Go.RowKit Go.Mine Go.Mine.Ac Go.Proofs.Tryz
theorem vq(a b:ByteArray)(w:World):
  CZ 356 #[.string a,.string b] w fun e w'=>e=.returned (.int .i64 (Lib.compareBytes a.data.toList b.data.toList))∧w'=w:=by
 go_enter func356,ntmps356;go_wp2;rw[run_callFunc_extern func366 (by kernel_rfl) (by kernel_rfl) (by kernel_rfl) (e:=Extern.BytealgCompare.compare) (by kernel_rfl),Lib.run_compareString];simp only[Result.andThen];rw[Oper.upon_value];go_wp2;go_ret;exact⟨rfl,rfl⟩
theorem vt(a b:ByteArray)(w:World):
  CZ 339 #[.string a,.string b] w fun e w'=>e=.returned (.int .i64 (Lib.compareBytes a.data.toList b.data.toList))∧w'=w:=by
 go_enter func339,ntmps339;go_wp2_with(go_fit(vq _ _ _);rintro e w'⟨rfl,rfl⟩);go_ret;exact⟨rfl,rfl⟩
def vu(a b:ByteArray):Int:=Lib.compareBytes a.data.toList b.data.toList
theorem cmp_cases:∀(a b:List UInt8),(Lib.compareBytes a b= -1∧Op.bytesLess a b=true∧Op.bytesLess b a=false)∨(Lib.compareBytes a b=0∧a=b∧Op.bytesLess a b=false)∨(Lib.compareBytes a b=1∧Op.bytesLess b a=true∧Op.bytesLess a b=false)
 | [],[]=>.inr (.inl ⟨rfl,rfl,by simp[Op.bytesLess]⟩)
 | [],_::_=>.inl ⟨rfl,by simp[Op.bytesLess],by simp[Op.bytesLess]⟩
 |_::_,[]=>.inr (.inr ⟨rfl,by simp[Op.bytesLess],by simp[Op.bytesLess]⟩)
 |a::x,b::y=>by
  have f:=cmp_cases x y;simp only[Lib.compareBytes,Op.bytesLess];by_cases h1:a<b
  ·have h2:¬b<a:=fun q=>by have:=UInt8.lt_iff_toNat_lt.1 h1;have:=UInt8.lt_iff_toNat_lt.1 q;omega
   have h3:(b==a)=false:=by rw[beq_eq_false_iff_ne];rintro rfl;exact h2 h1
   left;simp[h1,h2,h3]
  ·by_cases h2:b<a
   ·have h3:(a==b)=false:=by rw[beq_eq_false_iff_ne];rintro rfl;exact h1 h2
    right;right;simp[h1,h2,h3]
   ·obtain rfl:a=b:=by
     apply UInt8.toNat_inj.1;have g:¬a.toNat<b.toNat:=fun q=>h1 (UInt8.lt_iff_toNat_lt.2 q)
     have h:¬b.toNat<a.toNat:=fun q=>h2 (UInt8.lt_iff_toNat_lt.2 q)
     omega
    rcases f with⟨c,d,e⟩|⟨c,d,e⟩|⟨c,d,e⟩
    ·left;simp[h1,c,d,e]
    ·right;left;subst d;simp[h1,c,e]
    ·right;right;simp[h1,c,d,e]
theorem iq(a b:ByteArray):(vu a b= -1∧ei a b=true∧ei b a=false∧a≠b)∨(vu a b=0∧a=b∧ei a b=false∧ei b a=false)∨(vu a b=1∧ei b a=true∧ei a b=false∧a≠b):=by
 have h:=cmp_cases a.data.toList b.data.toList;unfold vu ei;rw[ByteArray.toList_eq,ByteArray.toList_eq];have c:∀l:List UInt8,Op.bytesLess l l=false:=fun l=>by
  induction l with|nil=>simp[Op.bytesLess]|cons x l d=>simp[Op.bytesLess,d]
 rcases h with⟨h1,h2,h3⟩|⟨h1,h2,h3⟩|⟨h1,h2,h3⟩
 ·refine .inl ⟨h1,h2,h3,?_⟩;rintro rfl;rw[c]at h2;simp at h2
 ·have:a=b:=ByteArray.ext (Array.toList_inj.1 h2);subst this;exact .inr (.inl ⟨h1,rfl,h3,h3⟩)
 ·refine .inr (.inr ⟨h1,h2,h3,?_⟩);rintro rfl;rw[c]at h2;simp at h2
theorem vv(x:Ent)(path:ByteArray)(w:World):CZ 307 #[.agg #[.string x.1,.int .u32 x.2],.string path] w (RT (.int .i64 (vu x.1 path)) w):=by
 have b:=fun W=>vt x.1 path W
 have a:vu x.1 path=Lib.compareBytes x.1.data.toList path.data.toList:=rfl;rw[a];obtain⟨c,d⟩:=x;dsimp only at b ⊢;clear a;generalize Lib.compareBytes c.data.toList path.data.toList=r at *;have t:=d7.alloc (fun _=>False) w (.cells #[.string c,.int .u32 d] 96);replace t:=i7 t;go_enter func307,ntmps307;go_wp2_with(go_fit(b _);rintro e w'⟨rfl,rfl⟩);go_ret;exact⟨rfl,t.o⟩
def I8(l:List Dc):List Value:=l.flatMap fun x=>[.string x.path,.int .u32 x.old,.int .u32 x.new]
theorem kD(l:List Dc)(x:Dc):I8 (l++[x])=I8 l++[.string x.path,.int .u32 x.old,.int .u32 x.new]:=by simp[I8]
theorem info297:(prog.info? 297).map (fun i=>(i.zero,i.size,i.bytes))=some (some (.agg #[.string ⟨#[]⟩,.int .u32 0,.int .u32 0]),3,24):=by kernel_rfl
theorem sK{x y:Ent}{a b:List Ent}(h:ei x.1 y.1=true):diffC (x::a) (y::b)=⟨x.1,x.2,0⟩::diffC a (y::b):=by rw[diffC,if_pos h]
theorem sL{x y:Ent}{a b:List Ent}(c:ei x.1 y.1=false)(h:ei y.1 x.1=true):diffC (x::a) (y::b)=⟨y.1,0,y.2⟩::diffC (x::a) b:=by rw[diffC,if_neg (by rw[c];decide),if_pos h]
theorem mA{x y:Ent}{a b:List Ent}(c:ei x.1 y.1=false)(h:ei y.1 x.1=false)(e:x.2=y.2):diffC (x::a) (y::b)=diffC a b:=by rw[diffC,if_neg (by rw[c];decide),if_neg (by rw[h];decide),if_pos e]
theorem jh{x y:Ent}{a b:List Ent}(c:ei x.1 y.1=false)(h:ei y.1 x.1=false)(e:x.2≠y.2):diffC (x::a) (y::b)=⟨x.1,x.2,y.2⟩::diffC a b:=by rw[diffC,if_neg (by rw[c];decide),if_neg (by rw[h];decide),if_neg e]
theorem kE{y:Ent}{b:List Ent}:diffC [] (y::b)=⟨y.1,0,y.2⟩::diffC [] b:=by simp[diffC]
theorem mB{x:Ent}{a:List Ent}:diffC (x::a) []=⟨x.1,x.2,0⟩::diffC a []:=by
 cases a with|nil=>simp[diffC]|cons z a=>simp[diffC]
theorem diffC_none:diffC [] []=[]:=by simp[diffC]
theorem mC{w:World}{S:Nat->Prop}{v:Value}{x:Ent}{a:List Ent}(h:Sl w S 96 2 v (o6 (x::a)) (x::a).length):∃g off cap,v=.slice (some ⟨g,off,none⟩) (a.length+1) cap∧S g∧g<w.heap.size∧w.cell? ⟨g,off,none⟩=some (.string x.1)∧w.cell? ⟨g,off+1,none⟩=some (.int .u32 x.2)∧∃b c,(∀w',(Instr.slice 65 (.slice (some ⟨g,off,none⟩) (a.length+1) cap) (some (.int .i64 1)) none none).run prog w'=.ok (.slice b a.length c) w')∧Sl w S 96 2 (.slice b a.length c) (o6 a) a.length:=by
 obtain⟨m,h1,h2⟩:=h.run_from (P:=prog) underlying65 infoC96 1 .i64 1 rfl (by simp);have i:(o6 (x::a)).drop (1*2)=o6 a:=by simp[o6]
 have j:(x::a).length-1=a.length:=by simp
 rw[i,j]at h2;obtain⟨g,off,cap,rfl,k,-,-,d,-,l⟩:=h.opens (by simp);obtain⟨b,c,rfl,-,-⟩:=h2.value;have e:=d 0 (by simp);have f:=d 1 (by simp only[List.length_cons];omega);exact⟨g,off,cap,rfl,k,l,e,f,b,c,h1,h2⟩
def wL(w:World)(S:Nat->Prop)(ta c:List Ent)(g:Nat)(d bv e:Value)(wr:World):Prop:=∃(a b:List Ent)(l:List Dc),a.length+b.length=g∧a.length<=ta.length∧b.length<=c.length∧(∀x∈a,x.2≠0∧x.2<4294967296)∧(∀x∈b,x.2≠0∧x.2<4294967296)∧diffC ta c=l++diffC a b∧Sl wr S 96 2 d (o6 a) a.length∧Sl wr S 96 2 bv (o6 b) b.length∧Sl wr (fun b=>w.heap.size<=b) 297 3 e (I8 l) l.length∧d7 (fun b=>w.heap.size<=b) w wr
def eh(w:World)(ta a:List Ent)(e:Ending)(w':World):Prop:=∃v,e=.returned v∧Sl w' (fun b=>w.heap.size<=b) 297 3 v (I8 (diffC ta a)) (diffC ta a).length∧TF w w'
theorem wM(w:World)(o:Obj)(a b c:Value)(h1:∀d∈[a,b,c],d.oneCell'=true):Src prog 3 294 (.slice (some ⟨w.heap.size+1,0,none⟩) 1 1) 1 [a,b,c] ((w.alloc o).alloc (.cells #[a,b,c] 297))∧Src prog 3 294 (.slice (some ⟨w.heap.size+1,0,none⟩) 1 1) 1 [a,b,c] ((w.alloc o).alloc (.cells #[a,b,c] 297)).drew:=by
 have e:(w.alloc o).heap.size=w.heap.size+1:=by simp
 constructor
 ·have:=G5 (P:=prog) 297 underlying294 [a,b,c] h1 (w.alloc o);rw[e]at this;exact this
 ·have:=ew (P:=prog) 297 underlying294 [a,b,c] h1 (w.alloc o);rw[e]at this;exact this
theorem ff{w2 U:World}(d:U.heap.size=w2.heap.size)(a b c:Value)(h1:∀e∈[a,b,c],e.oneCell'=true):Src prog 3 294 (.slice (some ⟨w2.heap.size,0,none⟩) 1 1) 1 [a,b,c] (U.alloc (.cells #[a,b,c] 297))∧Src prog 3 294 (.slice (some ⟨w2.heap.size,0,none⟩) 1 1) 1 [a,b,c] (U.alloc (.cells #[a,b,c] 297)).drew∧Src prog 3 294 (.slice (some ⟨w2.heap.size,0,none⟩) 1 1) 1 [a,b,c] (U.alloc (.cells #[a,b,c] 297)).drew.drew:=by
 refine⟨?_,?_,?_⟩
 ·have:=G5 (P:=prog) 297 underlying294 [a,b,c] h1 U;rw[d]at this;exact this
 ·have:=ew (P:=prog) 297 underlying294 [a,b,c] h1 U;rw[d]at this;exact this
 ·rw[<-d];refine Src.ofSlice _ underlying294 ⟨U.heap.size,0,none⟩ 1 1 [a,b,c] rfl (fun j e f=>?_) h1;rw[Addr.add_lit,Nat.zero_add];exact g9 (w:=(U.alloc (.cells #[a,b,c] 297)).drew.drew) (i8 U _) j e (by simpa using f)
theorem kY{wr a w2 U:World}{r:Nat}(b:TF wr a)(q:TF a w2)(t:d7 (· =r) w2 U)(d:wr.heap.size<=r):TF wr U:=(b.tr q).comp t fun i c z=>z.elim id fun z=>by omega
theorem O7{w wr W d:World}{S:Nat->Prop}{ta e a b:List Ent}{l:List Dc}{x:Dc}{g k:Nat}{f bv n:Value}(h:∀b,S b->b<w.heap.size)(j:d7 (fun b=>w.heap.size<=b) w wr)(m:TF wr W)(A:d7 (fun b=>w.heap.size<=b) W d)
  (s:Sl d (F2 (fun b=>w.heap.size<=b) W) 297 3 n (I8 l++[.string x.path,.int .u32 x.old,.int .u32 x.new]) (k+1)) (r:k=l.length) (p:a.length+b.length=g) (t:a.length<=ta.length) (u:b.length<=e.length)
  (v:∀x∈a,x.2≠0∧x.2<4294967296) (y:∀x∈b,x.2≠0∧x.2<4294967296) (o:diffC ta e=(l++[x])++diffC a b) (z:Sl wr S 96 2 f (o6 a) a.length) (sb:Sl wr S 96 2 bv (o6 b) b.length):wL w S ta e g f bv n d:=by
 have B:=j.size;have h1:=m.size;have T:d7 (fun b=>w.heap.size<=b) wr d:=m.comp A fun i _ q=>q.elim False.elim id
 refine⟨a,b,l++[x],p,t,u,v,y,o,z.turned T fun b c q=>by have:=h b c;omega,sb.turned T fun b c q=>by have:=h b c;omega,?_,j.tr T⟩;rw[kD,List.length_append,<-r];refine s.widen fun b c=>?_
 rcases c with q|q
 ·exact q
 ·omega
theorem pK{w wr W:World}{S:Nat->Prop}{ta d a b:List Ent}{l:List Dc}{g:Nat}{e bv f:Value}(r:∀b,S b->b<w.heap.size)(j:d7 (fun b=>w.heap.size<=b) w wr)(c:TF wr W)
  (sl:Sl wr (fun b=>w.heap.size<=b) 297 3 f (I8 l) l.length) (i:a.length+b.length=g) (k:a.length<=ta.length) (m:b.length<=d.length)
  (n:∀x∈a,x.2≠0∧x.2<4294967296) (o:∀x∈b,x.2≠0∧x.2<4294967296) (h:diffC ta d=l++diffC a b) (p:Sl wr S 96 2 e (o6 a) a.length) (sb:Sl wr S 96 2 bv (o6 b) b.length):wL w S ta d g e bv f W:=
 ⟨a,b,l,i,k,m,n,o,h,p.turned c fun _ _ q=>q,sb.turned c fun _ _ q=>q,sl.turned c fun _ _ q=>q,j.trans c fun _ _ q=>q.elim⟩
theorem yu{w:World}{S:Nat->Prop}{va vb:Value}{ta A:List Ent}(ha:Sl w S 96 2 va (o6 ta) ta.length)(hb:Sl w S 96 2 vb (o6 A) A.length)(hS:∀b,S b->b<w.heap.size)(na:∀x∈ta,x.2≠0∧x.2<4294967296)(P:∀x∈A,x.2≠0∧x.2<4294967296)
  (la:ta.length<=1000000) (lb:A.length<=1000000):CZ 231 #[va,vb] w (eh w ta A):=by
 obtain⟨Z,hZ⟩:=EX (eh w ta A);have HZ:Hid (Z=eh w ta A):=hZ;rw[<-hZ];have G:Hid (∀b,S b->b<w.heap.size):=hS;have HL:Hid (ta.length<=1000000∧A.length<=1000000):=⟨la,lb⟩;have B0:Hid (wL w S ta A (ta.length+A.length) va vb (.slice none 0 0) w):=⟨ta,A,[],rfl,LS _,LS _,na,P,rfl,ha,hb,Sl.nil _ _ _ _,TQ⟩;clear hZ ha hb hS na P la lb;obtain⟨M,hM⟩:=EX (ta.length+A.length);rw[<-hM]at B0;clear hM;go_enter func231,ntmps231;go_wp2;go_loopg[0,1,5] M (fun g av bv lv wr=>wL w S ta A g av bv lv wr)
 case atStart=>exact B0.o
 case round=>
  clear B0;obtain⟨a,b,l,hg,ga,gb,na,P,hd,sa,sb,sl,ht⟩:=hrel;obtain⟨Q,ai⟩:=EX l.length;have aq:=gC ta A;have au:l.length<=2000000:=by have:=congrArg List.length hd;rw[List.length_append]at this;have:=HL.o;omega
  have F:Hid (d7 (fun b=>w.heap.size<=b) w wr):=ht;have HD:Hid (diffC ta A=l++diffC a b):=hd;have B:Hid (Q=l.length∧Q<=2000000):=⟨ai,by omega⟩;obtain⟨lp,lc,rfl,-,-⟩:=sl.value;rw[<-ai]at sl ⊢;have SL:Hid (Sl wr (fun b=>w.heap.size<=b) 297 3 (.slice lp Q lc) (I8 l) Q):=sl;clear hd aq au sl ai;cases a with
  |nil=>
   obtain⟨ap,ac,rfl,-,-⟩:=sa.value;have SA:Hid (Sl wr S 96 2 (.slice ap 0 ac) (o6 []) 0):=sa;rw[List.length_nil]at sa ⊢;clear sa;cases b with
   |nil=>
    obtain⟨bp,bc,rfl,-,-⟩:=sb.value;rw[List.length_nil]at sb ⊢;have HE:Hid (diffC ta A=l):=i7 (by rw[HD.o,diffC_none,List.append_nil]);clear hg ga gb na P sb ht;go_wp2;rw[HZ.o];refine⟨.slice lp Q lc,rfl,?_,?_⟩
    ·rw[HE.o,<-B.o.1];exact SL.o
    ·exact F.o.mono fun i hi q=>by omega
   |cons y b=>
    obtain⟨g,off,cap,rfl,ao,ar,c0,c1,b',c',aj,ab⟩:=mC sb;obtain⟨n,O⟩:=EX b.length;have s:Hid (n=b.length∧Sl wr S 96 2 (.slice b' b.length c') (o6 b) b.length):=⟨O,ab⟩;have N:Hid (b.length+1=gk∧b.length+1<=A.length):=⟨by simpa using hg,by simpa using gb⟩;rw[<-O]at aj;rw[<-O];obtain⟨r,f⟩:=y;have HX:Hid (f≠0∧f<4294967296):=P _ List.mem_cons_self;have k:f≠0:=HX.o.1;dsimp only at c0 c1;have e1:((0:Int)==(f:Int))=false:=by simp;omega
    have e2:((0:Int) !=(f:Int))=true:=by simp;omega
    have I:Hid (∀x∈b,x.2≠0∧x.2<4294967296):=fun z k=>P z (LP _ k)
    clear hg ga gb na P sb ab O k ht;have L:Hid (Q+1<=maxLen∧(Q+1)*24<=140737488355328):=i7 (by have:=B.o;simp only[maxLen];omega);have E:=i7 (wM wr (.cells #[.string r,.int .u32 0,.int .u32 f] 297) (.string r) (.int .u32 0) (.int .u32 f) (by simp[Value.oneCell']));have j:Hid (TF wr ((wr.alloc (.cells #[.string r,.int .u32 0,.int .u32 f] 297)).alloc (.cells #[.string r,.int .u32 0,.int .u32 f] 297))):=TA.new _;go_wp2;go_region
    all_goals go_wp2_with(at_builtin;refine m7 rfl _ _ 294 294 rfl (SL.o.turned (T:=fun _=>False) (by first|(with_reducible exact j.o)|(with_reducible exact j.o.draw)) (fun _ _ q=>q)) underlying294 info297 rfl (by decide) rfl (.slice (some ⟨wr.heap.size+1,0,none⟩) 1 1) rfl (show Src prog 3 294 (.slice (some ⟨wr.heap.size+1,0,none⟩) 1 1) 1 [.string r,.int .u32 0,.int .u32 f] _ from by first|(with_reducible exact E.o.1)|(with_reducible exact E.o.2)) L.o.1 L.o.2 ?_;intro Y w5 C J;obtain⟨a5,c5,rfl,-,-⟩:=C.value;have m:=i7 (And.intro C J);clear C J)
    all_goals
     go_roundg (gk-1)
     case measure=>have:=N.o;omega
     case rel=>
      have hd:diffC ta A=(l++[(⟨r,0,f⟩:Dc)])++diffC [] b:=by rw[HD.o,kE];simp
      first
       |exact O7 (x:=⟨r,0,f⟩) G.o F.o j.o m.o.2 m.o.1 B.o.1 (by have:=N.o.1;simp at this ⊢;omega) (Nat.zero_le _) (by have:=N.o.2;omega) (fun z k=>by simp at k) I.o hd SA.o (by rw[s.o.1];exact s.o.2)
       |exact O7 (x:=⟨r,0,f⟩) G.o F.o j.o.draw m.o.2 m.o.1 B.o.1 (by have:=N.o.1;simp at this ⊢;omega) (Nat.zero_le _) (by have:=N.o.2;omega) (fun z k=>by simp at k) I.o hd SA.o (by rw[s.o.1];exact s.o.2)
  |cons x a=>
   obtain⟨g,off,cap,rfl,ao,ar,c0,c1,a',c',aj,al⟩:=mC sa;obtain⟨n,O⟩:=EX a.length;have s:Hid (n=a.length∧Sl wr S 96 2 (.slice a' a.length c') (o6 a) a.length):=⟨O,al⟩;have N:Hid (a.length+b.length+1=gk∧a.length+1<=ta.length):=⟨by simp at hg;omega,by simpa using ga⟩;rw[<-O]at aj;rw[<-O];cases b with
   |nil=>
    obtain⟨c,d⟩:=x;have k:d≠0:=(na _ List.mem_cons_self).1;have HX:Hid (d≠0∧d<4294967296):=na _ List.mem_cons_self;dsimp only at c0 c1;obtain⟨bp,bc,rfl,-,-⟩:=sb.value;have e1:((d:Int)==0)=false:=by simp;omega
    have e2:((d:Int) !=0)=true:=by simp;omega
    have H:Hid (∀x∈a,x.2≠0∧x.2<4294967296):=fun z k=>na z (LP _ k)
    have SB:Hid (Sl wr S 96 2 (.slice bp 0 bc) (o6 []) 0):=sb;clear hg ga gb na P sa al O k ht;rw[List.length_nil]at sb ⊢;clear sb;have L:Hid (Q+1<=maxLen∧(Q+1)*24<=140737488355328):=i7 (by have:=B.o;simp only[maxLen];omega);have E:=i7 (wM wr (.cells #[.string c,.int .u32 d,.int .u32 0] 297) (.string c) (.int .u32 d) (.int .u32 0) (by simp[Value.oneCell']));have j:Hid (TF wr ((wr.alloc (.cells #[.string c,.int .u32 d,.int .u32 0] 297)).alloc (.cells #[.string c,.int .u32 d,.int .u32 0] 297))):=TA.new _;go_wp2;go_region
    all_goals go_wp2_with(at_builtin;refine m7 rfl _ _ 294 294 rfl (SL.o.turned (T:=fun _=>False) (by first|(with_reducible exact j.o)|(with_reducible exact j.o.draw)) (fun _ _ q=>q)) underlying294 info297 rfl (by decide) rfl (.slice (some ⟨wr.heap.size+1,0,none⟩) 1 1) rfl (show Src prog 3 294 (.slice (some ⟨wr.heap.size+1,0,none⟩) 1 1) 1 [.string c,.int .u32 d,.int .u32 0] _ from by first|(with_reducible exact E.o.1)|(with_reducible exact E.o.2)) L.o.1 L.o.2 ?_;intro Y w5 C J;obtain⟨a5,c5,rfl,-,-⟩:=C.value;have m:=i7 (And.intro C J);clear C J)
    all_goals
     go_roundg (gk-1)
     case measure=>have:=N.o;omega
     case rel=>
      have hd:diffC ta A=(l++[(⟨c,d,0⟩:Dc)])++diffC a []:=by rw[HD.o,mB];simp
      first
       |exact O7 (x:=⟨c,d,0⟩) G.o F.o j.o m.o.2 m.o.1 B.o.1 (by have:=N.o.1;simp at this ⊢;omega) (by have:=N.o.2;omega) (Nat.zero_le _) H.o (fun z k=>by simp at k) hd (by rw[s.o.1];exact s.o.2) SB.o
       |exact O7 (x:=⟨c,d,0⟩) G.o F.o j.o.draw m.o.2 m.o.1 B.o.1 (by have:=N.o.1;simp at this ⊢;omega) (by have:=N.o.2;omega) (Nat.zero_le _) H.o (fun z k=>by simp at k) hd (by rw[s.o.1];exact s.o.2) SB.o
   |cons y b=>
    obtain⟨g2,ak,an,rfl,ax,ay,d0,d1,b',am,aw,ab⟩:=mC sb;obtain⟨n2,ag⟩:=EX b.length;have D:Hid (n2=b.length∧Sl wr S 96 2 (.slice b' b.length am) (o6 b) b.length):=⟨ag,ab⟩;have h:Hid (a.length+b.length+2=gk∧a.length+1<=ta.length∧b.length+1<=A.length):=⟨by simp at hg;omega,by simpa using ga,by simpa using gb⟩;have af:Hid (Sl wr S 96 2 (.slice (some ⟨g2,ak,none⟩) (b.length+1) an) (o6 (y::b)) (y::b).length):=sb;have ae:Hid (Sl wr S 96 2 (.slice (some ⟨g,off,none⟩) (a.length+1) cap) (o6 (x::a)) (x::a).length):=sa;rw[<-ag]at aw af;rw[<-O]at ae;rw[<-ag];obtain⟨c,d⟩:=x;obtain⟨r,f⟩:=y;have HX:Hid (d≠0∧d<4294967296):=na _ List.mem_cons_self;have HY:Hid (f≠0∧f<4294967296):=P _ List.mem_cons_self;dsimp only at c0 c1 d0 d1;have H:Hid (∀x∈a,x.2≠0∧x.2<4294967296):=fun z k=>na z (LP _ k)
    have I:Hid (∀x∈b,x.2≠0∧x.2<4294967296):=fun z k=>P z (LP _ k)
    have L:Hid (Q+1<=maxLen∧(Q+1)*24<=140737488355328):=i7 (by have:=B.o;simp only[maxLen];omega);obtain⟨V,hV⟩:=EX (wr.alloc (.cells #[.string ⟨#[]⟩,.int .u32 0,.int .u32 0] 297));have ad:Hid (V=wr.alloc (.cells #[.string ⟨#[]⟩,.int .u32 0,.int .u32 0] 297)):=hV;have tV:TF wr V:=by rw[hV];exact TA
    have xV:V.heap[wr.heap.size]?=some (.cells #[.string ⟨#[]⟩,.int .u32 0,.int .u32 0] 297):=by rw[hV];exact i8 _ _
    have TV:Hid (TF wr V):=tV;have KC:Hid (∀W,TF V W->W.cell? ⟨g,off,none⟩=some (.string c)∧W.cell? ⟨g,off+1,none⟩=some (.int .u32 d)∧W.cell? ⟨g2,ak,none⟩=some (.string r)∧W.cell? ⟨g2,ak+1,none⟩=some (.int .u32 f)∧W.heap[wr.heap.size]?=some (.cells #[.string ⟨#[]⟩,.int .u32 0,.int .u32 0] 297)∧g<W.heap.size∧g2<W.heap.size∧wr.heap.size<W.heap.size∧¬g=wr.heap.size∧¬g2=wr.heap.size):=fun W q=>by have t:=tV.tr q;have hb:=j9 xV q id;have az:=t.size;exact⟨m6 c0 t id,m6 c1 t id,m6 d0 t id,m6 d1 t id,hb,by omega,by omega,i6 hb,by omega,by omega⟩
    have aa:Hid (∀W,TF V W->CZ 307 #[.agg #[.string c,.int .u32 d],.string r] W (RT (.int .i64 (vu c r)) V)):=fun W q=>(vv (c,d) r W).mono fun e w'⟨u,v⟩=>⟨u,q.tr v⟩
    obtain⟨v0,v1,v2,v3,v4,Y,v6,v7,v8,v9⟩:=KC.o V TQ;have f0:=g9 v4 0 _ rfl;have f1:=g9 v4 1 _ rfl;have f2:=g9 v4 2 _ rfl;clear hg ga gb na P sa al sb ab O ag ht hV tV xV;rcases iq c r with⟨o1,o2,X,o4⟩|⟨o1,o2,X,o4⟩|⟨o1,o2,X,o4⟩
    ·have e1:((d:Int)==0)=false:=by have:=HX.o.1;simp;omega
     have e2:((d:Int) !=0)=true:=by have:=HX.o.1;simp;omega
     rw[o1]at aa;have K:Hid (ei c r=true):=o2;clear o1 o2 X o4;go_wp2_with fail;rw[<-ad.o];go_region_with (go_fit(aa.o _ TD);rintro e w2⟨rfl,q⟩;obtain⟨k0,k1,k2,k3,k4,k5,k6,k7,k8,k9⟩:=KC.o w2 q;have j0:w2.cell? ⟨wr.heap.size,0,none⟩=some (.string ⟨#[]⟩):=g9 k4 0 _ rfl;have j1:w2.cell? ⟨wr.heap.size,1,none⟩=some (.int .u32 0):=g9 k4 1 _ rfl;have j2:w2.cell? ⟨wr.heap.size,2,none⟩=some (.int .u32 0):=g9 k4 2 _ rfl;have i0:=j7 k4 0;have i1:=j7 k4 1;have i2:=j7 k4 2;replace k4:=i7 k4;replace q:=i7 q)
     all_goals clear v0 v1 v2 v3 v4 Y v6 v7 v8 v9 f0 f1 f2
     all_goals have E:=i7 (ff (w2:=w2) (U:=((w2.setCell ⟨wr.heap.size,0,none⟩ (.string c)).setCell ⟨wr.heap.size,1,none⟩ (.int .u32 d))) (by simp) (.string c) (.int .u32 d) (.int .u32 0) (by simp[Value.oneCell']))
     all_goals have R:Hid (TF wr ((w2.setCell ⟨wr.heap.size,0,none⟩ (.string c)).setCell ⟨wr.heap.size,1,none⟩ (.int .u32 d))):=kY TV.o q.o (((d7.refl (· =wr.heap.size) w2).set (p:=⟨wr.heap.size,0,none⟩) rfl _).set (p:=⟨wr.heap.size,1,none⟩) rfl _) (LS _)
     all_goals have j:Hid (TF wr (((w2.setCell ⟨wr.heap.size,0,none⟩ (.string c)).setCell ⟨wr.heap.size,1,none⟩ (.int .u32 d)).alloc (.cells #[.string c,.int .u32 d,.int .u32 0] 297))):=R.o.new _
     all_goals go_wp2
     all_goals go_region
     all_goals go_wp2_with(at_builtin;refine m7 rfl _ _ 294 294 rfl (SL.o.turned (T:=fun _=>False) (by first|(with_reducible exact j.o)|(with_reducible exact j.o.draw)|(with_reducible exact j.o.draw.draw)) (fun _ _ q=>q)) underlying294 info297 rfl (by decide) rfl (.slice (some ⟨w2.heap.size,0,none⟩) 1 1) rfl (show Src prog 3 294 (.slice (some ⟨w2.heap.size,0,none⟩) 1 1) 1 [.string c,.int .u32 d,.int .u32 0] _ from by first|(with_reducible exact E.o.1)|(with_reducible exact E.o.2.1)|(with_reducible exact E.o.2.2)) L.o.1 L.o.2 ?_;intro Y w5 C J;obtain⟨a5,c5,rfl,-,-⟩:=C.value;have m:=i7 (And.intro C J);clear C J)
     all_goals
      go_roundg (gk-1)
      case measure=>have:=h.o;omega
      case rel=>
       have hd:diffC ta A=(l++[(⟨c,d,0⟩:Dc)])++diffC a ((r,f)::b):=by rw[HD.o,sK K.o];simp
       first
        |exact O7 (x:=⟨c,d,0⟩) G.o F.o j.o m.o.2 m.o.1 B.o.1 (by have:=h.o.1;first|omega|(simp only[List.length_cons];omega)) (by have:=h.o.2;first|omega|(simp only[List.length_cons];omega)) (by have:=h.o.2;first|omega|(simp only[List.length_cons];omega)) H.o (fun z k=>(List.mem_cons.1 k).elim (fun e=>e▸HY.o) (I.o z)) hd (by rw[s.o.1];exact s.o.2) af.o
        |exact O7 (x:=⟨c,d,0⟩) G.o F.o j.o.draw m.o.2 m.o.1 B.o.1 (by have:=h.o.1;first|omega|(simp only[List.length_cons];omega)) (by have:=h.o.2;first|omega|(simp only[List.length_cons];omega)) (by have:=h.o.2;first|omega|(simp only[List.length_cons];omega)) H.o (fun z k=>(List.mem_cons.1 k).elim (fun e=>e▸HY.o) (I.o z)) hd (by rw[s.o.1];exact s.o.2) af.o
        |exact O7 (x:=⟨c,d,0⟩) G.o F.o j.o.draw.draw m.o.2 m.o.1 B.o.1 (by have:=h.o.1;first|omega|(simp only[List.length_cons];omega)) (by have:=h.o.2;first|omega|(simp only[List.length_cons];omega)) (by have:=h.o.2;first|omega|(simp only[List.length_cons];omega)) H.o (fun z k=>(List.mem_cons.1 k).elim (fun e=>e▸HY.o) (I.o z)) hd (by rw[s.o.1];exact s.o.2) af.o
    ·rw[o1]at aa;subst o2;by_cases ah:d=f
     ·have K:Hid (ei c c=false∧ei c c=false∧((c,d):Ent).2=((c,f):Ent).2):=⟨X,o4,ah⟩;have e1:((d:Int)==(f:Int))=true:=by simp;omega
      have e2:((d:Int) !=(f:Int))=false:=by simp;omega
      clear o1 X o4 ah;go_wp2_with fail;rw[<-ad.o];go_region_with (go_fit(aa.o _ TD);rintro e w2⟨rfl,q⟩;obtain⟨k0,k1,k2,k3,k4,k5,k6,k7,k8,k9⟩:=KC.o w2 q;have j0:w2.cell? ⟨wr.heap.size,0,none⟩=some (.string ⟨#[]⟩):=g9 k4 0 _ rfl;have j1:w2.cell? ⟨wr.heap.size,1,none⟩=some (.int .u32 0):=g9 k4 1 _ rfl;have j2:w2.cell? ⟨wr.heap.size,2,none⟩=some (.int .u32 0):=g9 k4 2 _ rfl;have i0:=j7 k4 0;have i1:=j7 k4 1;have i2:=j7 k4 2;replace k4:=i7 k4;replace q:=i7 q)
      all_goals clear v0 v1 v2 v3 v4 Y v6 v7 v8 v9 f0 f1 f2
      all_goals have E:=i7 (ff (w2:=w2) (U:=((((w2.setCell ⟨wr.heap.size,0,none⟩ (.string c)).setCell ⟨wr.heap.size,1,none⟩ (.int .u32 d)).setCell ⟨wr.heap.size,0,none⟩ (.string c)).setCell ⟨wr.heap.size,2,none⟩ (.int .u32 f))) (by simp) (.string c) (.int .u32 d) (.int .u32 f) (by simp[Value.oneCell']))
      all_goals have R:Hid (TF wr ((((w2.setCell ⟨wr.heap.size,0,none⟩ (.string c)).setCell ⟨wr.heap.size,1,none⟩ (.int .u32 d)).setCell ⟨wr.heap.size,0,none⟩ (.string c)).setCell ⟨wr.heap.size,2,none⟩ (.int .u32 f))):=kY TV.o q.o (((((d7.refl (· =wr.heap.size) w2).set (p:=⟨wr.heap.size,0,none⟩) rfl _).set (p:=⟨wr.heap.size,1,none⟩) rfl _).set (p:=⟨wr.heap.size,0,none⟩) rfl _).set (p:=⟨wr.heap.size,2,none⟩) rfl _) (LS _)
      all_goals have j:Hid (TF wr (((((w2.setCell ⟨wr.heap.size,0,none⟩ (.string c)).setCell ⟨wr.heap.size,1,none⟩ (.int .u32 d)).setCell ⟨wr.heap.size,0,none⟩ (.string c)).setCell ⟨wr.heap.size,2,none⟩ (.int .u32 f)).alloc (.cells #[.string c,.int .u32 d,.int .u32 f] 297))):=R.o.new _
      all_goals go_wp2
      all_goals go_region
      all_goals go_wp2
      all_goals go_region
      all_goals go_wp2
      all_goals
       go_roundg (gk-2)
       case measure=>have:=h.o;omega
       case rel=>
        have hd:diffC ta A=l++diffC a b:=by rw[HD.o,mA K.o.1 K.o.2.1 K.o.2.2]
        first
         |exact pK G.o F.o R.o (by rw[<-B.o.1];exact SL.o) (by have:=h.o.1;first|omega|(simp only[List.length_cons];omega)) (by have:=h.o.2;first|omega|(simp only[List.length_cons];omega)) (by have:=h.o.2;first|omega|(simp only[List.length_cons];omega)) H.o I.o hd (by rw[s.o.1];exact s.o.2) (by rw[D.o.1];exact D.o.2)
         |exact pK G.o F.o R.o.draw (by rw[<-B.o.1];exact SL.o) (by have:=h.o.1;first|omega|(simp only[List.length_cons];omega)) (by have:=h.o.2;first|omega|(simp only[List.length_cons];omega)) (by have:=h.o.2;first|omega|(simp only[List.length_cons];omega)) H.o I.o hd (by rw[s.o.1];exact s.o.2) (by rw[D.o.1];exact D.o.2)
         |exact pK G.o F.o R.o.draw.draw (by rw[<-B.o.1];exact SL.o) (by have:=h.o.1;first|omega|(simp only[List.length_cons];omega)) (by have:=h.o.2;first|omega|(simp only[List.length_cons];omega)) (by have:=h.o.2;first|omega|(simp only[List.length_cons];omega)) H.o I.o hd (by rw[s.o.1];exact s.o.2) (by rw[D.o.1];exact D.o.2)
     ·have K:Hid (ei c c=false∧ei c c=false∧((c,d):Ent).2≠((c,f):Ent).2):=⟨X,o4,ah⟩;have e1:((d:Int)==(f:Int))=false:=by simp;omega
      have e2:((d:Int) !=(f:Int))=true:=by simp;omega
      clear o1 X o4 ah;go_wp2_with fail;rw[<-ad.o];go_region_with (go_fit(aa.o _ TD);rintro e w2⟨rfl,q⟩;obtain⟨k0,k1,k2,k3,k4,k5,k6,k7,k8,k9⟩:=KC.o w2 q;have j0:w2.cell? ⟨wr.heap.size,0,none⟩=some (.string ⟨#[]⟩):=g9 k4 0 _ rfl;have j1:w2.cell? ⟨wr.heap.size,1,none⟩=some (.int .u32 0):=g9 k4 1 _ rfl;have j2:w2.cell? ⟨wr.heap.size,2,none⟩=some (.int .u32 0):=g9 k4 2 _ rfl;have i0:=j7 k4 0;have i1:=j7 k4 1;have i2:=j7 k4 2;replace k4:=i7 k4;replace q:=i7 q)
      all_goals clear v0 v1 v2 v3 v4 Y v6 v7 v8 v9 f0 f1 f2
      all_goals have E:=i7 (ff (w2:=w2) (U:=((((w2.setCell ⟨wr.heap.size,0,none⟩ (.string c)).setCell ⟨wr.heap.size,1,none⟩ (.int .u32 d)).setCell ⟨wr.heap.size,0,none⟩ (.string c)).setCell ⟨wr.heap.size,2,none⟩ (.int .u32 f))) (by simp) (.string c) (.int .u32 d) (.int .u32 f) (by simp[Value.oneCell']))
      all_goals have R:Hid (TF wr ((((w2.setCell ⟨wr.heap.size,0,none⟩ (.string c)).setCell ⟨wr.heap.size,1,none⟩ (.int .u32 d)).setCell ⟨wr.heap.size,0,none⟩ (.string c)).setCell ⟨wr.heap.size,2,none⟩ (.int .u32 f))):=kY TV.o q.o (((((d7.refl (· =wr.heap.size) w2).set (p:=⟨wr.heap.size,0,none⟩) rfl _).set (p:=⟨wr.heap.size,1,none⟩) rfl _).set (p:=⟨wr.heap.size,0,none⟩) rfl _).set (p:=⟨wr.heap.size,2,none⟩) rfl _) (LS _)
      all_goals have j:Hid (TF wr (((((w2.setCell ⟨wr.heap.size,0,none⟩ (.string c)).setCell ⟨wr.heap.size,1,none⟩ (.int .u32 d)).setCell ⟨wr.heap.size,0,none⟩ (.string c)).setCell ⟨wr.heap.size,2,none⟩ (.int .u32 f)).alloc (.cells #[.string c,.int .u32 d,.int .u32 f] 297))):=R.o.new _
      all_goals go_wp2
      all_goals go_region
      all_goals go_wp2
      all_goals go_region
      all_goals go_wp2_with(at_builtin;refine m7 rfl _ _ 294 294 rfl (SL.o.turned (T:=fun _=>False) (by first|(with_reducible exact j.o)|(with_reducible exact j.o.draw)|(with_reducible exact j.o.draw.draw)) (fun _ _ q=>q)) underlying294 info297 rfl (by decide) rfl (.slice (some ⟨w2.heap.size,0,none⟩) 1 1) rfl (show Src prog 3 294 (.slice (some ⟨w2.heap.size,0,none⟩) 1 1) 1 [.string c,.int .u32 d,.int .u32 f] _ from by first|(with_reducible exact E.o.1)|(with_reducible exact E.o.2.1)|(with_reducible exact E.o.2.2)) L.o.1 L.o.2 ?_;intro Y w5 C J;obtain⟨a5,c5,rfl,-,-⟩:=C.value;have m:=i7 (And.intro C J);clear C J)
      all_goals
       go_roundg (gk-2)
       case measure=>have:=h.o;omega
       case rel=>
        have hd:diffC ta A=(l++[(⟨c,d,f⟩:Dc)])++diffC a b:=by rw[HD.o,jh K.o.1 K.o.2.1 K.o.2.2];simp
        first
         |exact O7 (x:=⟨c,d,f⟩) G.o F.o j.o m.o.2 m.o.1 B.o.1 (by have:=h.o.1;first|omega|(simp only[List.length_cons];omega)) (by have:=h.o.2;first|omega|(simp only[List.length_cons];omega)) (by have:=h.o.2;first|omega|(simp only[List.length_cons];omega)) H.o I.o hd (by rw[s.o.1];exact s.o.2) (by rw[D.o.1];exact D.o.2)
         |exact O7 (x:=⟨c,d,f⟩) G.o F.o j.o.draw m.o.2 m.o.1 B.o.1 (by have:=h.o.1;first|omega|(simp only[List.length_cons];omega)) (by have:=h.o.2;first|omega|(simp only[List.length_cons];omega)) (by have:=h.o.2;first|omega|(simp only[List.length_cons];omega)) H.o I.o hd (by rw[s.o.1];exact s.o.2) (by rw[D.o.1];exact D.o.2)
         |exact O7 (x:=⟨c,d,f⟩) G.o F.o j.o.draw.draw m.o.2 m.o.1 B.o.1 (by have:=h.o.1;first|omega|(simp only[List.length_cons];omega)) (by have:=h.o.2;first|omega|(simp only[List.length_cons];omega)) (by have:=h.o.2;first|omega|(simp only[List.length_cons];omega)) H.o I.o hd (by rw[s.o.1];exact s.o.2) (by rw[D.o.1];exact D.o.2)
    ·have e1:((0:Int)==(f:Int))=false:=by have:=HY.o.1;simp;omega
     have e2:((0:Int) !=(f:Int))=true:=by have:=HY.o.1;simp;omega
     rw[o1]at aa;have K:Hid (ei c r=false∧ei r c=true):=⟨X,o2⟩;clear o1 o2 X o4;go_wp2_with fail;rw[<-ad.o];go_region_with (go_fit(aa.o _ TD);rintro e w2⟨rfl,q⟩;obtain⟨k0,k1,k2,k3,k4,k5,k6,k7,k8,k9⟩:=KC.o w2 q;have j0:w2.cell? ⟨wr.heap.size,0,none⟩=some (.string ⟨#[]⟩):=g9 k4 0 _ rfl;have j1:w2.cell? ⟨wr.heap.size,1,none⟩=some (.int .u32 0):=g9 k4 1 _ rfl;have j2:w2.cell? ⟨wr.heap.size,2,none⟩=some (.int .u32 0):=g9 k4 2 _ rfl;have i0:=j7 k4 0;have i1:=j7 k4 1;have i2:=j7 k4 2;replace k4:=i7 k4;replace q:=i7 q)
     all_goals clear v0 v1 v2 v3 v4 Y v6 v7 v8 v9 f0 f1 f2
     all_goals have E:=i7 (ff (w2:=w2) (U:=((w2.setCell ⟨wr.heap.size,0,none⟩ (.string r)).setCell ⟨wr.heap.size,2,none⟩ (.int .u32 f))) (by simp) (.string r) (.int .u32 0) (.int .u32 f) (by simp[Value.oneCell']))
     all_goals have R:Hid (TF wr ((w2.setCell ⟨wr.heap.size,0,none⟩ (.string r)).setCell ⟨wr.heap.size,2,none⟩ (.int .u32 f))):=kY TV.o q.o (((d7.refl (· =wr.heap.size) w2).set (p:=⟨wr.heap.size,0,none⟩) rfl _).set (p:=⟨wr.heap.size,2,none⟩) rfl _) (LS _)
     all_goals have j:Hid (TF wr (((w2.setCell ⟨wr.heap.size,0,none⟩ (.string r)).setCell ⟨wr.heap.size,2,none⟩ (.int .u32 f)).alloc (.cells #[.string r,.int .u32 0,.int .u32 f] 297))):=R.o.new _
     all_goals go_wp2
     all_goals go_region
     all_goals go_wp2_with(at_builtin;refine m7 rfl _ _ 294 294 rfl (SL.o.turned (T:=fun _=>False) (by first|(with_reducible exact j.o)|(with_reducible exact j.o.draw)|(with_reducible exact j.o.draw.draw)) (fun _ _ q=>q)) underlying294 info297 rfl (by decide) rfl (.slice (some ⟨w2.heap.size,0,none⟩) 1 1) rfl (show Src prog 3 294 (.slice (some ⟨w2.heap.size,0,none⟩) 1 1) 1 [.string r,.int .u32 0,.int .u32 f] _ from by first|(with_reducible exact E.o.1)|(with_reducible exact E.o.2.1)|(with_reducible exact E.o.2.2)) L.o.1 L.o.2 ?_;intro Y w5 C J;obtain⟨a5,c5,rfl,-,-⟩:=C.value;have m:=i7 (And.intro C J);clear C J)
     all_goals
      go_roundg (gk-1)
      case measure=>have:=h.o;omega
      case rel=>
       have hd:diffC ta A=(l++[(⟨r,0,f⟩:Dc)])++diffC ((c,d)::a) b:=by rw[HD.o,sL K.o.1 K.o.2];simp
       first
        |exact O7 (x:=⟨r,0,f⟩) G.o F.o j.o m.o.2 m.o.1 B.o.1 (by have:=h.o.1;first|omega|(simp only[List.length_cons];omega)) (by have:=h.o.2;first|omega|(simp only[List.length_cons];omega)) (by have:=h.o.2;first|omega|(simp only[List.length_cons];omega)) (fun z k=>(List.mem_cons.1 k).elim (fun e=>e▸HX.o) (H.o z)) I.o hd ae.o (by rw[D.o.1];exact D.o.2)
        |exact O7 (x:=⟨r,0,f⟩) G.o F.o j.o.draw m.o.2 m.o.1 B.o.1 (by have:=h.o.1;first|omega|(simp only[List.length_cons];omega)) (by have:=h.o.2;first|omega|(simp only[List.length_cons];omega)) (by have:=h.o.2;first|omega|(simp only[List.length_cons];omega)) (fun z k=>(List.mem_cons.1 k).elim (fun e=>e▸HX.o) (H.o z)) I.o hd ae.o (by rw[D.o.1];exact D.o.2)
        |exact O7 (x:=⟨r,0,f⟩) G.o F.o j.o.draw.draw m.o.2 m.o.1 B.o.1 (by have:=h.o.1;first|omega|(simp only[List.length_cons];omega)) (by have:=h.o.2;first|omega|(simp only[List.length_cons];omega)) (by have:=h.o.2;first|omega|(simp only[List.length_cons];omega)) (fun z k=>(List.mem_cons.1 k).elim (fun e=>e▸HX.o) (H.o z)) I.o hd ae.o (by rw[D.o.1];exact D.o.2)
def kF(w:World)(ta a:List Ent)(g:Nat)(e c d:Value)(wr:World):Prop:=∃(i j:Nat)(l:List Dc),i<=ta.length∧j<=a.length∧ta.length+a.length=i+j+g∧c=.int .i64 i∧d=.int .i64 j∧diffC ta a=l++diffC (ta.drop i) (a.drop j)∧Sl wr (fun b=>w.heap.size<=b) 297 3 e (I8 l) l.length∧d7 (fun b=>w.heap.size<=b) w wr
theorem ji{w wr W c:World}{ta a:List Ent}{l:List Dc}{x:Dc}{i j g d:Nat}{f:Value}(t:d7 (fun b=>w.heap.size<=b) w wr)(e:TF wr W)(r:d7 (fun b=>w.heap.size<=b) W c)(q:Sl c (F2 (fun b=>w.heap.size<=b) W) 297 3 f (I8 l++[.string x.path,.int .u32 x.old,.int .u32 x.new]) (d+1))(p:d=l.length)
  (n:i<=ta.length) (o:j<=a.length) (m:ta.length+a.length=i+j+g) (k:diffC ta a=(l++[x])++diffC (ta.drop i) (a.drop j)):kF w ta a g f (.int .i64 i) (.int .i64 j) c:=by
 refine⟨i,j,l++[x],n,o,m,rfl,rfl,k,?_,t.tr (e.comp r fun _ _ z=>z.elim False.elim id)⟩;rw[kD,List.length_append,<-p];refine q.widen fun b h=>?_
 have:=t.size;have:=e.size;exact h.elim id fun z=>by omega
theorem yv{w:World}{S1 S2:Nat->Prop}{a1 a2:Option Addr}{J c2:Nat}{ta c:List Ent}(ha:H1 w S1 a1 J ta)(hb:H1 w S2 a2 c2 c)(la:ta.length<=1000000)(lb:c.length<=1000000):
  CZ 250 #[.slice a1 ta.length J,.slice a2 c.length c2] w (eh w ta c):=by
 obtain⟨Z,hZ⟩:=EX (eh w ta c);have HZ:Hid (Z=eh w ta c):=hZ;rw[<-hZ];obtain⟨L,M⟩:=EX ta.length;obtain⟨B,F⟩:=EX c.length;have d:Hid (L=ta.length∧B=c.length∧L<=1000000∧B<=1000000):=i7 ⟨M,F,by omega,by omega⟩;have HA:Hid (H1 w S1 a1 J ta):=ha;have HB:Hid (H1 w S2 a2 c2 c):=hb;have B0:Hid (kF w ta c (L+B) (.slice none 0 0) (.int .i64 0) (.int .i64 0) w):=⟨0,0,[],Nat.zero_le _,Nat.zero_le _,by rw[M,F];omega,rfl,rfl,rfl,Sl.nil _ _ _ _,TQ⟩;rw[<-M,<-F];clear hZ ha hb la lb M F;go_enter func250,ntmps250;go_wp2;go_loopg[5,6,7] (L+B) (fun g lv iv jv wr=>kF w ta c g lv iv jv wr)
 case atStart=>exact B0.o
 case round=>
  clear B0;obtain⟨i,j,l,hi,hj,hg,rfl,rfl,hd,sl,ht⟩:=hrel;obtain⟨p,ag⟩:=EX l.length;have ai:=gC ta c;have X:Hid (p=l.length∧p<=2000000):=i7 ⟨ag,by have:=congrArg List.length hd;rw[List.length_append]at this;have:=d.o;omega⟩;have m:Hid (i<=ta.length∧j<=c.length∧ta.length+c.length=i+j+gk):=⟨hi,hj,hg⟩;have Y:Hid (diffC ta c=l++diffC (ta.drop i) (c.drop j)):=hd;have C:Hid (d7 (fun b=>w.heap.size<=b) w wr):=ht;obtain⟨lp,lc,rfl,-,-⟩:=sl.value;rw[<-ag]at sl ⊢;have SL:Hid (Sl wr (fun b=>w.heap.size<=b) 297 3 (.slice lp p lc) (I8 l) p):=sl;have N:Hid (p+1<=maxLen∧(p+1)*24<=140737488355328):=i7 (by have:=X.o;simp only[maxLen];omega);have ab:Hid (wrap64 ((i:Int)+1)=((i+1:Nat):Int)):=i7 (by have:=d.o;simp[wrap64];omega);have ac:Hid (wrap64 ((j:Int)+1)=((j+1:Nat):Int)):=i7 (by have:=d.o;simp[wrap64];omega);clear hi hj hg hd sl ai ag ht;by_cases M:i<L
  ·obtain⟨⟨h,f⟩,hx⟩:∃x,ta[i]?=some x:=⟨_,LB (by rw[<-d.o.1];exact M)⟩;obtain⟨g,off,rfl,-,ae,S,J⟩:=cT HA.o i _ hx;have S:=m6 S C.o (by omega);have J:=m6 J C.o (by omega);have ak:g<w.heap.size:=ae;have aj:g<wr.heap.size:=LC ae C.o.size;have HX:Hid (ta.drop i=(h,f)::ta.drop (i+1)):=X9 hx;have i1:decide ((i:Int)<(L:Int))=true:=LX (by omega);have i2:decide (i<L)=true:=LX M;have i3:((i:Int)==(L:Int))=false:=by simp;omega
   dsimp only at S J;clear hx ae;by_cases F:j<B
   ·obtain⟨⟨n,e⟩,hy⟩:∃x,c[j]?=some x:=⟨_,LB (by rw[<-d.o.2.1];exact F)⟩;obtain⟨u,D,rfl,-,aa,K,d1⟩:=cT HB.o j _ hy;have K:=m6 K C.o (by omega);have d1:=m6 d1 C.o (by omega);have al:u<w.heap.size:=aa;have ah:u<wr.heap.size:=LC aa C.o.size;have HY:Hid (c.drop j=(n,e)::c.drop (j+1)):=X9 hy;have j1:decide ((j:Int)<(B:Int))=true:=LX (by omega);have j2:decide (j<B)=true:=LX F;have j3:((j:Int)==(B:Int))=false:=by simp;omega
    dsimp only at K d1;have KS:Hid (∀W,d7 (fun b=>w.heap.size<=b) wr W->W.cell? ⟨g,off+i*2,none⟩=some (.string h)∧W.cell? ⟨g,off+i*2+1,none⟩=some (.int .u32 f)∧W.cell? ⟨u,D+j*2,none⟩=some (.string n)∧W.cell? ⟨u,D+j*2+1,none⟩=some (.int .u32 e)∧g<W.heap.size∧u<W.heap.size):=i7 fun W t=>⟨m6 S t (by omega),m6 J t (by omega),m6 K t (by omega),m6 d1 t (by omega),LC aj t.size,LC ah t.size⟩
    clear hy aa;cases ad:Op.bytesLess h.toList n.toList with
    |true=>
     have I:Hid (diffC ta c=(l++[(⟨h,f,0⟩:Dc)])++diffC (ta.drop (i+1)) (c.drop j)):=i7 (by rw[Y.o,HX.o,HY.o,sK (x:=(h,f)) (y:=(n,e)) ad];simp);go_wp2;go_quiet (fail);go_wp2;generalize G:wr.drewN nq=a;have r:Hid (TF wr a):=i7 (by rw[<-G];exact TQ.drawN _);have K1:Hid (∀W,d7 (fun b=>w.heap.size<=b) a W->W.cell? ⟨g,off+i*2,none⟩=some (.string h)∧W.cell? ⟨g,off+i*2+1,none⟩=some (.int .u32 f)):=i7 fun W t=>by have k:=KS.o W ((r.o.mono fun _ _ z=>z.elim).tr t);exact⟨k.1,k.2.1⟩
     have O:Hid (Sl (a.alloc (.cells #[.string h,.int .u32 f,.int .u32 0] 297)).drew (fun b=>w.heap.size<=b) 297 3 (.slice lp p lc) (I8 l) p):=i7 (SL.o.turned (T:=fun _=>False) (r.o.tr (TA.draw)) fun _ _ z=>z);have P:=i7 (ff (w2:=a) (U:=a) rfl (.string h) (.int .u32 f) (.int .u32 0) (by simp[Value.oneCell']));clear G S J K d1
     go_region_held3 (fun W=>W.cell? ⟨g,off+i*2,none⟩=some (.string h)∧W.cell? ⟨g,off+i*2+1,none⟩=some (.int .u32 f))
      (first|(exact K1.o _ TD)|(exact K1.o _ (TA.draw))|(exact K1.o _ E)|go_keep)
      (first|(refine o5 (by rfl) _ _ 294 294 (by rfl) O.o underlying294 info297 rfl (by decide) (by rfl) (.slice (some ⟨a.heap.size,0,none⟩) 1 1) (by rfl) P.o.2.1 N.o.1 N.o.2 ?_;intro v5 H v A;obtain⟨R,V,rfl,-,-⟩:=v.value;have E:d7 (fun b=>w.heap.size<=b) a H:=((d7.alloc _ a _).draw).tr A;have s:=i7 (And.intro v A);clear v A))
     have Q:Hid (kF w ta c (gk-1) (.slice R (p+1) V) (.int .i64 ((i+1:Nat):Int)) (.int .i64 ((j:Nat):Int)) H):=i7 (ji (x:=⟨h,f,0⟩) C.o (r.o.tr ((d7.alloc _ a _).draw)) s.o.2 s.o.1 X.o.1 (by have:=d.o;have:=m.o;omega) (by have:=d.o;have:=m.o;omega) (by have:=d.o;have:=m.o;omega) I.o);clear E s;go_wp2;go_roundg (gk-1)
     case measure=>have:=m.o;have:=d.o;omega
     case rel=>rw[ab.o];exact Q.o
    |false=>
     cases af:Op.bytesLess n.toList h.toList with
     |true=>
      have I:Hid (diffC ta c=(l++[(⟨n,0,e⟩:Dc)])++diffC (ta.drop i) (c.drop (j+1))):=i7 (by rw[Y.o,HX.o,HY.o,sL (x:=(h,f)) (y:=(n,e)) ad af];simp);go_wp2;go_quiet (fail);revert nq;intro n1;go_wp2;go_quiet (fail);go_wp2;generalize G:(wr.drewN n1).drewN nq=a;have r:Hid (TF wr a):=i7 (by rw[<-G];exact(TQ.drawN _).drawN _);have K1:Hid (∀W,d7 (fun b=>w.heap.size<=b) a W->W.cell? ⟨u,D+j*2,none⟩=some (.string n)∧W.cell? ⟨u,D+j*2+1,none⟩=some (.int .u32 e)):=i7 fun W t=>by have k:=KS.o W ((r.o.mono fun _ _ z=>z.elim).tr t);exact⟨k.2.2.1,k.2.2.2.1⟩
      have O:Hid (Sl (a.alloc (.cells #[.string n,.int .u32 0,.int .u32 e] 297)).drew (fun b=>w.heap.size<=b) 297 3 (.slice lp p lc) (I8 l) p):=i7 (SL.o.turned (T:=fun _=>False) (r.o.tr (TA.draw)) fun _ _ z=>z);have P:=i7 (ff (w2:=a) (U:=a) rfl (.string n) (.int .u32 0) (.int .u32 e) (by simp[Value.oneCell']));clear G S J K d1
      go_region_held3 (fun W=>W.cell? ⟨u,D+j*2,none⟩=some (.string n)∧W.cell? ⟨u,D+j*2+1,none⟩=some (.int .u32 e))
       (first|(exact K1.o _ TD)|(exact K1.o _ (TA.draw))|(exact K1.o _ E)|go_keep)
       (first|(refine o5 (by rfl) _ _ 294 294 (by rfl) O.o underlying294 info297 rfl (by decide) (by rfl) (.slice (some ⟨a.heap.size,0,none⟩) 1 1) (by rfl) P.o.2.1 N.o.1 N.o.2 ?_;intro v5 H v A;obtain⟨R,V,rfl,-,-⟩:=v.value;have E:d7 (fun b=>w.heap.size<=b) a H:=((d7.alloc _ a _).draw).tr A;have s:=i7 (And.intro v A);clear v A))
      have Q:Hid (kF w ta c (gk-1) (.slice R (p+1) V) (.int .i64 ((i:Nat):Int)) (.int .i64 ((j+1:Nat):Int)) H):=i7 (ji (x:=⟨n,0,e⟩) C.o (r.o.tr ((d7.alloc _ a _).draw)) s.o.2 s.o.1 X.o.1 (by have:=d.o;have:=m.o;omega) (by have:=d.o;have:=m.o;omega) (by have:=d.o;have:=m.o;omega) I.o);clear E s;go_wp2;go_roundg (gk-1)
      case measure=>have:=m.o;have:=d.o;omega
      case rel=>rw[ac.o];exact Q.o
     |false=>
      by_cases he:f=e
      ·have I:Hid (diffC ta c=l++diffC (ta.drop (i+1)) (c.drop (j+1))):=i7 (by rw[Y.o,HX.o,HY.o,mA (x:=(h,f)) (y:=(n,e)) ad af he]);have e1:((f:Int)==(e:Int))=true:=by simp;omega
       have e2:((f:Int) !=(e:Int))=false:=by simp;omega
       clear he;go_wp2;go_quiet (fail);revert nq;intro n1;go_wp2;go_quiet (fail);revert nq;intro n2;go_wp2;go_quiet (fail);go_wp2;go_roundg (gk-2)
       case measure=>have:=m.o;have:=d.o;omega
       case rel=>
        rw[ab.o,ac.o];refine⟨i+1,j+1,l,by have:=d.o;have:=m.o;omega,by have:=d.o;have:=m.o;omega,by have:=d.o;have:=m.o;omega,rfl,rfl,I.o,?_,C.o.drawN _⟩;rw[<-X.o.1];exact SL.o.turned ((d7.refl (fun _=>False) wr).drawN _) fun _ _ z=>z
      ·have I:Hid (diffC ta c=(l++[(⟨h,f,e⟩:Dc)])++diffC (ta.drop (i+1)) (c.drop (j+1))):=i7 (by rw[Y.o,HX.o,HY.o,jh (x:=(h,f)) (y:=(n,e)) ad af he];simp);have e1:((f:Int)==(e:Int))=false:=by simp;omega
       have e2:((f:Int) !=(e:Int))=true:=by simp;omega
       clear he;go_wp2;go_quiet (fail);revert nq;intro n1;go_wp2;go_quiet (fail);revert nq;intro n2;go_wp2;go_quiet (fail);go_wp2;generalize G:((wr.drewN n1).drewN n2).drewN nq=a;have r:Hid (TF wr a):=i7 (by rw[<-G];exact((TQ.drawN _).drawN _).drawN _);have K1:Hid (∀W,d7 (fun b=>w.heap.size<=b) a W->W.cell? ⟨g,off+i*2,none⟩=some (.string h)∧W.cell? ⟨g,off+i*2+1,none⟩=some (.int .u32 f)∧W.cell? ⟨u,D+j*2+1,none⟩=some (.int .u32 e)):=i7 fun W t=>by have k:=KS.o W ((r.o.mono fun _ _ z=>z.elim).tr t);exact⟨k.1,k.2.1,k.2.2.2.1⟩
       have O:Hid (Sl (a.alloc (.cells #[.string h,.int .u32 f,.int .u32 e] 297)).drew (fun b=>w.heap.size<=b) 297 3 (.slice lp p lc) (I8 l) p):=i7 (SL.o.turned (T:=fun _=>False) (r.o.tr (TA.draw)) fun _ _ z=>z);have P:=i7 (ff (w2:=a) (U:=a) rfl (.string h) (.int .u32 f) (.int .u32 e) (by simp[Value.oneCell']));clear G S J K d1
       go_region_held3 (fun W=>W.cell? ⟨g,off+i*2,none⟩=some (.string h)∧W.cell? ⟨g,off+i*2+1,none⟩=some (.int .u32 f)∧W.cell? ⟨u,D+j*2+1,none⟩=some (.int .u32 e))
        (first|(exact K1.o _ TD)|(exact K1.o _ (TA.draw))|(exact K1.o _ E)|go_keep)
        (first|(refine o5 (by rfl) _ _ 294 294 (by rfl) O.o underlying294 info297 rfl (by decide) (by rfl) (.slice (some ⟨a.heap.size,0,none⟩) 1 1) (by rfl) P.o.2.1 N.o.1 N.o.2 ?_;intro v5 H v A;obtain⟨R,V,rfl,-,-⟩:=v.value;have E:d7 (fun b=>w.heap.size<=b) a H:=((d7.alloc _ a _).draw).tr A;have s:=i7 (And.intro v A);clear v A))
       have Q:Hid (kF w ta c (gk-2) (.slice R (p+1) V) (.int .i64 ((i+1:Nat):Int)) (.int .i64 ((j+1:Nat):Int)) H):=i7 (ji (x:=⟨h,f,e⟩) C.o (r.o.tr ((d7.alloc _ a _).draw)) s.o.2 s.o.1 X.o.1 (by have:=d.o;have:=m.o;omega) (by have:=d.o;have:=m.o;omega) (by have:=d.o;have:=m.o;omega) I.o);clear E s;go_wp2;go_roundg (gk-2)
       case measure=>have:=m.o;have:=d.o;omega
       case rel=>rw[ab.o,ac.o];exact Q.o
   ·have j1:decide ((j:Int)<(B:Int))=false:=LD (by omega);have j2:decide (j<B)=false:=LD F;have j3:((j:Int)==(B:Int))=true:=by have:=m.o;have:=d.o;simp;omega
    have KS:Hid (∀W,d7 (fun b=>w.heap.size<=b) wr W->W.cell? ⟨g,off+i*2,none⟩=some (.string h)∧W.cell? ⟨g,off+i*2+1,none⟩=some (.int .u32 f)):=i7 fun W t=>⟨m6 S t (by omega),m6 J t (by omega)⟩
    have I:Hid (diffC ta c=(l++[(⟨h,f,0⟩:Dc)])++diffC (ta.drop (i+1)) (c.drop j)):=i7 (by rw[Y.o,HX.o,List.drop_eq_nil_of_le (show c.length<=j by have:=d.o;omega),mB];simp);clear F;go_wp2;go_quiet (fail);go_wp2;generalize G:wr.drewN nq=a;have r:Hid (TF wr a):=i7 (by rw[<-G];exact TQ.drawN _);have K1:Hid (∀W,d7 (fun b=>w.heap.size<=b) a W->W.cell? ⟨g,off+i*2,none⟩=some (.string h)∧W.cell? ⟨g,off+i*2+1,none⟩=some (.int .u32 f)):=i7 fun W t=>by have k:=KS.o W ((r.o.mono fun _ _ z=>z.elim).tr t);exact⟨k.1,k.2⟩
    have O:Hid (Sl (a.alloc (.cells #[.string h,.int .u32 f,.int .u32 0] 297)).drew (fun b=>w.heap.size<=b) 297 3 (.slice lp p lc) (I8 l) p):=i7 (SL.o.turned (T:=fun _=>False) (r.o.tr (TA.draw)) fun _ _ z=>z);have P:=i7 (ff (w2:=a) (U:=a) rfl (.string h) (.int .u32 f) (.int .u32 0) (by simp[Value.oneCell']));clear G S J
    go_region_held3 (fun W=>W.cell? ⟨g,off+i*2,none⟩=some (.string h)∧W.cell? ⟨g,off+i*2+1,none⟩=some (.int .u32 f))
     (first|(exact K1.o _ TD)|(exact K1.o _ (TA.draw))|(exact K1.o _ E)|go_keep)
     (first|(refine o5 (by rfl) _ _ 294 294 (by rfl) O.o underlying294 info297 rfl (by decide) (by rfl) (.slice (some ⟨a.heap.size,0,none⟩) 1 1) (by rfl) P.o.2.1 N.o.1 N.o.2 ?_;intro v5 H v A;obtain⟨R,V,rfl,-,-⟩:=v.value;have E:d7 (fun b=>w.heap.size<=b) a H:=((d7.alloc _ a _).draw).tr A;have s:=i7 (And.intro v A);clear v A))
    have Q:Hid (kF w ta c (gk-1) (.slice R (p+1) V) (.int .i64 ((i+1:Nat):Int)) (.int .i64 ((j:Nat):Int)) H):=i7 (ji (x:=⟨h,f,0⟩) C.o (r.o.tr ((d7.alloc _ a _).draw)) s.o.2 s.o.1 X.o.1 (by have:=d.o;have:=m.o;omega) (by have:=d.o;have:=m.o;omega) (by have:=d.o;have:=m.o;omega) I.o);clear E s;go_wp2;go_roundg (gk-1)
    case measure=>have:=m.o;have:=d.o;omega
    case rel=>rw[ab.o];exact Q.o
  ·have i1:decide ((i:Int)<(L:Int))=false:=LD (by omega);have i2:decide (i<L)=false:=LD M;have i3:((i:Int)==(L:Int))=true:=by have:=m.o;have:=d.o;simp;omega
   by_cases F:j<B
   ·obtain⟨⟨n,e⟩,hy⟩:∃x,c[j]?=some x:=⟨_,LB (by rw[<-d.o.2.1];exact F)⟩;obtain⟨u,D,rfl,-,aa,K,d1⟩:=cT HB.o j _ hy;have K:=m6 K C.o (by omega);have d1:=m6 d1 C.o (by omega);have ah:u<wr.heap.size:=LC aa C.o.size;have HY:Hid (c.drop j=(n,e)::c.drop (j+1)):=X9 hy;have j1:decide ((j:Int)<(B:Int))=true:=LX (by omega);have j2:decide (j<B)=true:=LX F;have j3:((j:Int)==(B:Int))=false:=by simp;omega
    dsimp only at K d1;have KS:Hid (∀W,d7 (fun b=>w.heap.size<=b) wr W->W.cell? ⟨u,D+j*2,none⟩=some (.string n)∧W.cell? ⟨u,D+j*2+1,none⟩=some (.int .u32 e)):=i7 fun W t=>⟨m6 K t (by omega),m6 d1 t (by omega)⟩
    have I:Hid (diffC ta c=(l++[(⟨n,0,e⟩:Dc)])++diffC (ta.drop i) (c.drop (j+1))):=i7 (by rw[Y.o,HY.o,List.drop_eq_nil_of_le (show ta.length<=i by have:=d.o;omega),kE];simp);clear hy aa M;go_wp2;go_quiet (fail);revert nq;intro n1;go_wp2;go_quiet (fail);go_wp2;generalize G:(wr.drewN n1).drewN nq=a;have r:Hid (TF wr a):=i7 (by rw[<-G];exact(TQ.drawN _).drawN _);have K1:Hid (∀W,d7 (fun b=>w.heap.size<=b) a W->W.cell? ⟨u,D+j*2,none⟩=some (.string n)∧W.cell? ⟨u,D+j*2+1,none⟩=some (.int .u32 e)):=i7 fun W t=>by have k:=KS.o W ((r.o.mono fun _ _ z=>z.elim).tr t);exact⟨k.1,k.2⟩
    have O:Hid (Sl (a.alloc (.cells #[.string n,.int .u32 0,.int .u32 e] 297)).drew (fun b=>w.heap.size<=b) 297 3 (.slice lp p lc) (I8 l) p):=i7 (SL.o.turned (T:=fun _=>False) (r.o.tr (TA.draw)) fun _ _ z=>z);have P:=i7 (ff (w2:=a) (U:=a) rfl (.string n) (.int .u32 0) (.int .u32 e) (by simp[Value.oneCell']));clear G K d1
    go_region_held3 (fun W=>W.cell? ⟨u,D+j*2,none⟩=some (.string n)∧W.cell? ⟨u,D+j*2+1,none⟩=some (.int .u32 e))
     (first|(exact K1.o _ TD)|(exact K1.o _ (TA.draw))|(exact K1.o _ E)|go_keep)
     (first|(refine o5 (by rfl) _ _ 294 294 (by rfl) O.o underlying294 info297 rfl (by decide) (by rfl) (.slice (some ⟨a.heap.size,0,none⟩) 1 1) (by rfl) P.o.2.1 N.o.1 N.o.2 ?_;intro v5 H v A;obtain⟨R,V,rfl,-,-⟩:=v.value;have E:d7 (fun b=>w.heap.size<=b) a H:=((d7.alloc _ a _).draw).tr A;have s:=i7 (And.intro v A);clear v A))
    have Q:Hid (kF w ta c (gk-1) (.slice R (p+1) V) (.int .i64 ((i:Nat):Int)) (.int .i64 ((j+1:Nat):Int)) H):=i7 (ji (x:=⟨n,0,e⟩) C.o (r.o.tr ((d7.alloc _ a _).draw)) s.o.2 s.o.1 X.o.1 (by have:=d.o;have:=m.o;omega) (by have:=d.o;have:=m.o;omega) (by have:=d.o;have:=m.o;omega) I.o);clear E s;go_wp2;go_roundg (gk-1)
    case measure=>have:=m.o;have:=d.o;omega
    case rel=>rw[ac.o];exact Q.o
   ·have j1:decide ((j:Int)<(B:Int))=false:=LD (by omega);have j2:decide (j<B)=false:=LD F;have I:Hid (diffC ta c=l):=i7 (by rw[Y.o,List.drop_eq_nil_of_le (show ta.length<=i by have:=d.o;omega),List.drop_eq_nil_of_le (show c.length<=j by have:=d.o;omega),diffC_none,List.append_nil]);clear M F;go_wp2;rw[HZ.o];refine⟨.slice lp p lc,rfl,?_,C.o.mono fun i hi q=>by omega⟩;rw[I.o,<-X.o.1];exact SL.o
end Go.Proofs.YtofcogekgcgjhaaGreatDoor
