/- Packed. -/
import Derived.Deep.DeepFit
import Derived.Test.YtofcogekgcgjhaaGreatDoorZzaa
import Derived.Deep.AppendSrc
import Derived.Deep.Upon
import Derived.KernelRfl
import Derived.Test.YtofcogekgcgjhaaGreatDoorZzab
import Derived.Deep.MidRow
import Derived.Deep.WholeRow
import Derived.Laws.BitsAllLaws
set_option maxRecDepth 100000
set_option maxHeartbeats 8000000
namespace Go.Mine
open Go.MapKept
def Sl(w:World)(S:Nat->Prop)(e:TypeId)(size:Nat)(v:Value)(xs:List Value)(n:Nat):Prop:=
 xs.length=n*size∧((v=.slice none 0 0∧n=0)∨
  ∃g off cap a,v=.slice (some ⟨g,off,none⟩) n cap∧S g∧w.heap[g]?=some (.cells a e (0,0))∧n<=cap∧cap<=maxLen∧off+cap*size<=a.size∧(a.toList.drop off).take (n*size)=xs)
theorem Sl.nil(w:World)(S:Nat->Prop)(e:TypeId)(size:Nat):Sl w S e size (.slice none 0 0) [] 0:=⟨by simp,.inl ⟨rfl,rfl⟩⟩
theorem Sl.turned{w w':World}{S T:Nat->Prop}{e:TypeId}{size:Nat}{v:Value}{xs:List Value}{n:Nat}(h:Sl w S e size v xs n)(d:d7 T w w')(c:∀b,S b->¬T b):Sl w' S e size v xs n:=by
 refine⟨h.1,?_⟩;rcases h.2 with h|⟨g,off,cap,a,h1,h2,h3,h4⟩
 ·exact .inl h
 ·exact .inr ⟨g,off,cap,a,h1,h2,(d.block g (i6 h3) (c g h2)).trans h3,h4⟩
theorem Sl.widen{w:World}{S T:Nat->Prop}{e:TypeId}{size:Nat}{v:Value}{xs:List Value}{n:Nat}(h:Sl w S e size v xs n)(c:∀b,S b->T b):Sl w T e size v xs n:=by
 refine⟨h.1,?_⟩;rcases h.2 with h|⟨g,off,cap,a,h1,h2,h3⟩
 ·exact .inl h
 ·exact .inr ⟨g,off,cap,a,h1,c g h2,h3⟩
theorem Sl.drew{w:World}{S:Nat->Prop}{e:TypeId}{size:Nat}{v:Value}{xs:List Value}{n:Nat}(h:Sl w S e size v xs n):Sl w.drew S e size v xs n:=h
theorem Sl.opens{w:World}{S:Nat->Prop}{e:TypeId}{size:Nat}{v:Value}{xs:List Value}{n:Nat}(h:Sl w S e size v xs n)(i:0<n):
  ∃g off cap,v=.slice (some ⟨g,off,none⟩) n cap∧S g∧n<=cap∧cap<=maxLen∧(∀j,j<n*size->w.cell? ⟨g,off+j,none⟩=xs[j]?)∧(∀j,w.frozen? ⟨g,j,none⟩=false)∧g<w.heap.size:=by
 rcases h.2 with⟨_,h⟩|⟨g,off,cap,d,h1,h2,h3,h4,a,f,b⟩
 ·omega
 ·refine⟨g,off,cap,h1,h2,h4,a,fun j c=>?_,fun j=>j7 h3 j,i6 h3⟩;rw[<-b,List.getElem?_take,if_pos c,List.getElem?_drop];simp[World.cell?,h3]
theorem Sl.value{w:World}{S:Nat->Prop}{e:TypeId}{size:Nat}{v:Value}{xs:List Value}{n:Nat}(h:Sl w S e size v xs n):∃a cap,v=.slice a n cap∧n<=cap∧cap<=maxLen:=by
 rcases h.2 with⟨h1,rfl⟩|⟨g,off,cap,c,h1,h2,h3,h4,b,_⟩
 ·exact⟨_,_,h1,LS _,by simp[maxLen]⟩
 ·exact⟨_,_,h1,h4,b⟩
def fG(l:List Value)(o:Nat)(a:List Value):List Value:=l.take o++a++l.drop (o+a.length)
theorem mN{l:List Value}{o:Nat}{a:List Value}(h:o+a.length<=l.length):(fG l o a).length=l.length:=by simp[fG];omega
theorem qu{l:List Value}{o:Nat}{v:Value}{r:List Value}(h:o<l.length):fG (l.set o v) (o+1) r=fG l o (v::r):=by unfold fG;rw[List.take_add_one,List.getElem?_set_self h,List.take_set_of_le (Nat.le_refl o),List.drop_set_of_lt (by omega)];simp[Nat.add_comm 1,Nat.add_assoc]
theorem dg(b:Nat)(e:TypeId):∀(c:List Value)(o:Nat)(w:World)(a:Array Value),w.heap[b]?=some (.cells a e (0,0))->o+c.length<=a.size->(w.setCells b o c).heap[b]?=some (.cells (fG a.toList o c).toArray e (0,0))
 | [],o,w,a,h,hl=>by simp[World.setCells,fG,h]
 |v::r,o,w,a,h,hl=>by simp only[List.length_cons]at hl;have h1:=j8 (o:=o) h v;rw[World.setCells,dg b e r (o+1) _ _ h1 (by simp;omega)];rw[Array.toList_setIfInBounds,qu (by simp;omega)]
theorem d7.setCells{S:Nat->Prop}(b:Nat)(a:S b):∀(c:List Value)(o:Nat)(w:World),d7 S w (w.setCells b o c)
 | [],_,w=>d7.refl S w
 |v::r,o,w=>by rw[World.setCells];exact(d7.setCell (p:=⟨b,o,none⟩) a v).tr (d7.setCells b a r (o+1) _)
def F2(S:Nat->Prop)(w:World)(b:Nat):Prop:=S b∨w.heap.size<=b
section
variable {P:Program} {w:World} {S:Nat->Prop} {e t tx:TypeId} {size bytes:Nat} {v x z:Value} {xs news:List Value} {n m:Nat} {i:TypeInfo}
theorem Sl.append(h:Sl w S e size v xs n)(p:P.underlying t=some (.slice e))(o:P.info? e=some i)(F:i.zero=some z)(N:i.size=size)(H:i.bytes=bytes)(Q:z.cells.size=size)(R:0<size)
  (a:Src P size tx x m news w) (q:n+m<=maxLen) (C:(n+m)*bytes<=140737488355328) (f:TypeId):
  ∃G w',(Builtin.append_ #[t,tx] f #[v,x]).run P w=.ok G w'∧Sl w' (F2 S w) e size G (xs++news) (n+m)∧d7 S w w':=by
 subst N;subst H;have c:(xs++news).length=(n+m)*i.size:=by rw[List.length_append,h.1,a.newsLen,Nat.add_mul]
 have A:∀(old:Nat),old<n+m->Sl (w.drew.alloc (.cells ((xs++news).toArray++Builtin.zeroCells z.cells (grownCap w (n+m) old e-(n+m))) e)) (F2 S w) e i.size
    (.slice (some ⟨w.heap.size,0,none⟩) (n+m) (grownCap w (n+m) old e)) (xs++news) (n+m)∧
   d7 S w (w.drew.alloc (.cells ((xs++news).toArray++Builtin.zeroCells z.cells (grownCap w (n+m) old e-(n+m))) e)):=by
  intro old V;have J:=grownCap_ge w (n+m) old e;have r:grownCap w (n+m) old e<=maxLen:=grownCap_le_maxLen w (n+m) old e q;refine⟨⟨c,.inr ⟨w.heap.size,0,_,_,rfl,.inr (LS _),i8 w.drew _,J,r,?_,?_⟩⟩,(d7.drew S w).new _⟩
  ·simp only[Array.size_append,List.size_toArray,size_zeroCells,Q,c,Nat.zero_add,<-Nat.add_mul];exact Nat.le_of_eq (by congr 1;omega)
  ·rw[List.drop_zero,Array.toList_append,<-c];exact List.take_left
 rcases h.2 with⟨rfl,rfl⟩|⟨g,off,cap,k,rfl,B,l,U,r,I,E⟩
 ·have hx:xs=[]:=LO (by simpa using h.1);subst hx;by_cases K:m=0
  ·subst K;have L:news=[]:=LO (by simpa using a.newsLen);subst L;exact⟨_,_,run_append_nothing w t tx f e i p o none 0 0 (LS _) x a,Sl.nil _ _ _ _,TQ⟩
  ·have d:=run_append_grow_src (P:=P) w t tx f e i z p o F none 0 0 [] (run_firstCells_none w.drew i.size 0 0 0) x m news a (by omega) (by simp only[maxLen]at q;omega) (growslice_fits (by omega) (by simpa using C));have b:=A 0 (by omega);exact⟨_,_,d,b.1,b.2⟩
 ·by_cases u:n+m<=cap
  ·have T:(n+m)*i.size<=cap*i.size:=Nat.mul_le_mul_right _ u;have D:off+n*i.size+news.length<=k.size:=by rw[a.newsLen,Nat.add_assoc,<-Nat.add_mul];omega
   have d:=run_append_room_src (P:=P) w t tx f e i p o g off n cap x m news a u (fun j s=>by simp[World.cell?,l];omega) (fun j s=>j7 l _);refine⟨_,_,d,⟨c,.inr ⟨g,off,cap,_,rfl,.inl B,dg g e news _ w k l D,u,r,?_,?_⟩⟩,d7.setCells g B _ _ _⟩
   ·simp only[List.size_toArray];rw[mN (by simpa using D)];simpa using I
   ·have h1:n*i.size<=k.size-off:=by omega
    have O:(k.toList.take (off+n*i.size)).drop off=xs:=by rw[<-E,List.drop_take];congr 1;omega
    simp only[fG];rw[List.append_assoc,List.drop_append_of_le_length (by simp;omega),O,<-List.append_assoc,<-c];exact List.take_left
  ·have M:(Builtin.firstCells i.size n (.slice (some ⟨g,off,none⟩) n cap)).run P w.drew=.ok xs.toArray w.drew:=by
    refine run_firstCells_some w.drew i.size n ⟨g,off,none⟩ n cap xs h.1 fun j W y=>?_
    have s:j<n*i.size:=by rw[<-h.1];exact(LA.1 y).1
    rw[<-E,List.getElem?_take,if_pos s,List.getElem?_drop]at y;rw[Addr.add_lit];simpa[World.cell?,xd,l]using y
   have d:=run_append_grow_src (P:=P) w t tx f e i z p o F _ n cap xs M x m news a (by omega) (by simp only[maxLen]at q;omega) (growslice_fits (by omega) C);have b:=A cap (by omega);exact⟨_,_,d,b.1,b.2⟩
theorem m7{d:Array Oper}{rest:List Oper}{o:Oper}{a:Act}{c:Exit->Act->World->Prop}(q:o.guard=none)(f g:Operand)(t tx:TypeId)
  (u:o.op=.call {callee:=.builtin .append,args:=#[f,g],argTypes:=#[t,tx]})
  (h:Sl w S e size v xs n) (D:P.underlying t=some (.slice e)) (s:(P.info? e).map (fun i=>(i.zero,i.size,i.bytes))=some (some z,size,bytes)) (H:z.cells.size=size) (B:0<size)
  (A:a.eval f=v) (x:Value) (hx:a.eval g=x) (C:Src P size tx x m news w) (j:n+m<=maxLen) (p:(n+m)*bytes<=140737488355328)
  (k:∀b w',Sl w' (F2 S w) e size b (xs++news) (n+m)->d7 S w w'->wpList P d c rest (a.put o.dst b) w'):wpList P d c (o::rest) a w:=by
 obtain⟨i,r,E,F,G⟩:=info_parts s;refine wpList_plain q fun I l=>?_
 obtain⟨b,w',y,r1,r2⟩:=h.append D r E F G H B C j p o.type;unfold Oper.wp;simp[execOp,u,resolve,invoke,builtin,A,hx,y,Result.andThen];exact l _ _ (k b w' r1 r2)
theorem Sl.cut(h:Sl w S e size v xs n)(b c:Nat)(r:b<=c)(q:c<=n):
  ∃a cap,v=.slice a n cap∧n<=cap∧cap<=maxLen∧Sl w S e size (.slice (if cap=b then a else a.map (·.add (b*size))) (c-b) (cap-b)) ((xs.drop (b*size)).take ((c-b)*size)) (c-b):=by
 have k:((xs.drop (b*size)).take ((c-b)*size)).length=(c-b)*size:=by
  have h1:b*size+(c-b)*size<=n*size:=by rw[<-Nat.add_mul];exact Nat.mul_le_mul_right _ (by omega)
  simp only[List.length_take,List.length_drop,h.1];omega
 rcases h.2 with⟨rfl,rfl⟩|⟨g,off,cap,d,rfl,f,j,m,l,p,o⟩
 ·obtain rfl:c=0:=by omega
  obtain rfl:b=0:=by omega
  exact⟨none,0,rfl,LS _,by simp[maxLen],by rw[if_pos rfl];exact⟨k,.inl ⟨rfl,rfl⟩⟩⟩
 ·refine⟨_,cap,rfl,m,l,k,.inr ?_⟩;by_cases i:cap=b
  ·obtain rfl:c=n:=by omega
   obtain rfl:b=c:=by omega
   refine⟨g,off,cap-b,d,by rw[if_pos i],f,j,by omega,by omega,?_,?_⟩
   ·have:(cap-b)*size<=cap*size:=Nat.mul_le_mul_right _ (by omega);omega
   ·simp
  ·refine⟨g,off+b*size,cap-b,d,by rw[if_neg i,Option.map_some,Addr.add_lit],f,j,by omega,by omega,?_,?_⟩
   ·have:b*size+(cap-b)*size=cap*size:=by rw[<-Nat.add_mul];congr 1;omega
    omega
   ·have h1:b*size+(c-b)*size<=n*size:=by rw[<-Nat.add_mul];exact Nat.mul_le_mul_right _ (by omega)
    rw[<-o,<-List.drop_drop,List.drop_take,List.take_take];congr 1;omega
theorem Sl.run_from(h:Sl w S e size v xs n)(g:P.underlying t=some (.slice e))(f:(P.info? e).map (fun i=>(i.zero,i.size,i.bytes))=some (some z,size,bytes))(k:Nat)(l:IntKind)(L:Int)(c:L=(k:Int))(a:k<=n):
  ∃b,(∀w',(Instr.slice t v (some (.int l L)) none none).run P w'=.ok b w')∧Sl w S e size b (xs.drop (k*size)) (n-k):=by
 obtain⟨i,d,m,j,o⟩:=info_parts f;subst c;obtain⟨ad,cap,rfl,h1,h2,h3⟩:=h.cut k n a (LS _);have h4:(xs.drop (k*size)).take ((n-k)*size)=xs.drop (k*size):=by apply LQ;rw[List.length_drop,h.1,Nat.sub_mul];exact LS _
 rw[h4]at h3;refine⟨_,fun w'=>?_,h3⟩;simp[Instr.slice,Instr.sliceBounds,Instr.sliceBound,asIntOf,run_underlying g,sizeOf,typeInfo,d,j,a,Result.andThen]
theorem Sl.run_to(h:Sl w S e size v xs n)(j:P.underlying t=some (.slice e))(d:(P.info? e).map (fun i=>(i.zero,i.size,i.bytes))=some (some z,size,bytes))(k:Nat)(l:IntKind)(L:Int)(b:L=(k:Int))(f:k<=n):
  ∃a,(∀w',(Instr.slice t v none (some (.int l L)) none).run P w'=.ok a w')∧Sl w S e size a (xs.take (k*size)) k:=by
 obtain⟨i,c,m,o,p⟩:=info_parts d;subst b;obtain⟨ad,cap,rfl,h1,h2,h3⟩:=h.cut 0 k (Nat.zero_le _) f;simp only[Nat.zero_mul,List.drop_zero,Nat.sub_zero]at h3;have g:k<=cap:=by omega
 refine⟨_,fun w'=>?_,h3⟩;simp[Instr.slice,Instr.sliceBounds,Instr.sliceBound,asIntOf,run_underlying j,sizeOf,typeInfo,c,g,Result.andThen]
theorem Sl.src(h:Sl w S e size v xs n){d:TypeId}(b:P.underlying tx=some (.slice d))(h1:∀c∈xs,c.oneCell'=true):Src P size tx v n xs w:=by
 rcases h.2 with⟨rfl,rfl⟩|⟨g,off,cap,l,rfl,m,f,q,o,p,k⟩
 ·obtain rfl:xs=[]:=LO (by simpa using h.1);exact Src.ofNil _ b 0
 ·refine Src.ofSlice _ b _ n cap xs h.1 (fun j c a=>?_) h1;have i:j<n*size:=by rw[<-h.1];exact(LA.1 a).1
  rw[<-k,List.getElem?_take,if_pos i,List.getElem?_drop]at a;rw[Addr.add_lit];simpa[World.cell?,f]using a
theorem R6{te:TypeId}(b:P.underlying tx=some (.slice te))(a:Value)(c:a.oneCell'=true)(w:World):Src P 1 tx (.slice (some ⟨w.heap.size,0,none⟩) 1 1) 1 [a] (w.alloc (.cells #[a] te)):=Src.ofSlice _ b _ 1 1 [a] rfl (cell_one_new _ _ _) (by simpa using c)
end
end Go.Mine
namespace Go.Proofs.YtofcogekgcgjhaaGreatDoor
open Go.RowKit Go.Mine Tryz
theorem yU(c:Nat)(f:c<4294967296)(w:World):CZ 285 #[.int .u32 c] w fun e w'=>e=.returned (.int .u32 (Crc.turn c:Nat))∧w=w':=by
 have h1:bits .and .u32 (c:Int) 1=((c% 2:Nat):Int):=by have:=u32_and_nat c 1 f (by decide);rw[Nat.and_one_is_mod]at this;exact this
 have h2:bits .xor .u32 ((c:Int) / 2) 3988292384=(((c / 2)^^^3988292384:Nat):Int):=by have:=u32_xor_nat (c / 2) 3988292384 (by omega) (by decide);simpa using this
 have d:Crc.turn c=if c% 2=1 then(c / 2)^^^3988292384 else c / 2:=rfl
 rcases Nat.mod_two_eq_zero_or_one c with a|a
 ·rw[a]at h1;have b:Crc.turn c=c / 2:=by rw[d,a];rfl
  rw[b];clear d b a h2;go_enter func285,ntmps285;go_wp2;go_ret;exact⟨rfl,rfl⟩
 ·rw[a]at h1;have b:Crc.turn c=(c / 2)^^^3988292384:=by rw[d,a];rfl
  rw[b];clear d b a;go_enter func285,ntmps285;go_wp2;go_ret;exact⟨rfl,rfl⟩
theorem yV(c:Nat)(f:c<4294967296)(w:World):CZ 324 #[.int .u32 c] w fun e w'=>e=.returned (.int .u32 (Crc.turn c:Nat))∧w=w':=by
 have h1:bits .and .u32 (c:Int) 1=((c% 2:Nat):Int):=by have:=u32_and_nat c 1 f (by decide);rw[Nat.and_one_is_mod]at this;exact this
 have h2:bits .xor .u32 ((c:Int) / 2) 3988292384=(((c / 2)^^^3988292384:Nat):Int):=by have:=u32_xor_nat (c / 2) 3988292384 (by omega) (by decide);simpa using this
 have d:Crc.turn c=if c% 2=1 then(c / 2)^^^3988292384 else c / 2:=rfl
 rcases Nat.mod_two_eq_zero_or_one c with a|a
 ·rw[a]at h1;have b:Crc.turn c=c / 2:=by rw[d,a];rfl
  rw[b];clear d b a h2;go_enter func324,ntmps324;go_wp2;go_ret;exact⟨rfl,rfl⟩
 ·rw[a]at h1;have b:Crc.turn c=(c / 2)^^^3988292384:=by rw[d,a];rfl
  rw[b];clear d b a;go_enter func324,ntmps324;go_wp2;go_ret;exact⟨rfl,rfl⟩
def tab(n:Nat):Array Value:=((List.range 256).map fun j=>Value.int .u32 (if j<n then((Crc.turns 8 j:Nat):Int)else 0)).toArray
theorem P9(n:Nat):(tab n).size=256:=by simp[tab]
theorem kM(n j:Nat)(h:j<256):(tab n)[j]?=some (.int .u32 (if j<n then((Crc.turns 8 j:Nat):Int)else 0)):=by simp[tab,h]
theorem Ba(i:Nat)(h:i<256):(tab i).setIfInBounds i (.int .u32 (Crc.turns 8 i:Nat))=tab (i+1):=by
 apply Array.ext_getElem?;intro j;rw[Array.getElem?_setIfInBounds];by_cases b:j<256
 ·rw[kM _ _ b,kM _ _ b,P9];by_cases a:i=j
  ·subst a;simp[h]
  ·rw[if_neg a];have:(j<i)=(j<i+1):=by apply propext;omega
   simp[this]
 ·have h1:(tab i)[j]?=none:=by rw[Array.getElem?_eq_none];rw[P9];omega
  have h2:(tab (i+1))[j]?=none:=by rw[Array.getElem?_eq_none];rw[P9];omega
  rw[h1,h2,if_neg (by omega)]
theorem vV(n:Nat):(tab n).all (·.oneCell')=true:=by rw[Array.all_eq_true];intro i a;simp[tab,Value.oneCell']
theorem zero107:∀w,(zeroValue 268).run prog w=.ok (.agg (tab 0)) w:=(zero_of_info (n:=256) (by kernel_rfl)).1
theorem size107:(prog.info? 268).map (·.size)=some 256:=by kernel_rfl
theorem ej{P:Program}{f:Array Oper}{rest:List Oper}{op:Oper}{a:Act}{w:World}{d:Exit->Act->World->Prop}(j:op.guard=none)(c:TypeId)(x y:Operand)(n:op.op=.store c x y)
    (g:Nat) (b old:Array Value) (t:TypeId) (hx:a.eval x=.pointer (some ⟨g,0,none⟩)) (p:a.eval y=.agg b)
    (e:w.heap[g]?=some (.cells old t (0,0))) (l:(P.info? c).map (·.size)=some b.size) (o:old.size=b.size) (h1:b.all (·.oneCell')=true)
    (h:∀w',w'.heap[g]?=some (.cells b t (0,0))->d7 (· =g) w w'->w'.heap.size=w.heap.size->wpList P f d rest (a.put op.dst undef) w'):wpList P f d (op::rest) a w:=
  wpList_plain j fun _ i=>by unfold Oper.wp execOp;simp only[n,hx,p,Instr.storeAt,Instr.sureAddr,Sem.run_bind,Sem.run_pure,Result.andThen_ok,run_storeVar_row w g t c old b e l o h1];exact i _ _ (h _ (setRow_heap w g old b t (0,0) e) ⟨rfl,rfl,rfl,by simp[World.setRow],fun k _ m=>setRow_other w g k b m⟩ (by simp[World.setRow]))
def Bb(w:World)(a:Array Value)(g:Nat)(i:Value)(wr:World):Prop:=∃j:Nat,j+g=256∧i=.int .i64 j∧wr=(w.alloc (.cells a 268)).alloc (.cells (tab j) 268)
theorem yW(w:World):CZ 207 #[] w (RT (.agg (tab 256)) w):=by
  have z:=zero107;obtain⟨a,b⟩:=EX (tab 0);rw[<-b]at z;have n:Hid (a=tab 0):=b;clear b;go_enter func207,ntmps207;go_wp2;clear z;go_loopg[4] 256 (fun g i wr=>Bb w a g i wr)
  case atStart=>exact⟨0,rfl,rfl,by rw[n.o]⟩
  case round=>
    obtain⟨j,x,rfl,rfl⟩:=hrel;have d:Hid (j+gk=256):=x;clear x;by_cases h:j<256
    ·have A:decide ((j:Int)<256)=true:=by simp;omega
     have B:∀(m:Nat)w,CZ 285 #[.int .u32 (Crc.turns m j:Nat)] w fun e w'=>e=.returned (.int .u32 (Crc.turns (m+1) j:Nat))∧w=w':=by intro m w;rw[Crc.turns_succ];exact yU _ (Crc.turns_lt m j (by omega)) w
     have H:=Ba j h;have I:=P9 j;have f:(tab j)[j]?=some (.int .u32 0):=by rw[kM j j h];simp
     go_wp2;go_loopg[3,9] 8 (fun g c k wr=>∃m:Nat,m+g=8∧k=.int .i64 m∧c=.int .u32 (Crc.turns m j:Nat)∧wr=(w.alloc (.cells a 268)).alloc (.cells (tab j) 268))
     case atStart=>exact⟨0,rfl,rfl,by simp[Crc.turns],rfl⟩
     case round=>
       obtain⟨m,G,rfl,rfl,rfl⟩:=hrel;by_cases F:m<8
       ·go_wp2_with(go_fit(B _ _);rintro e w'⟨rfl,rfl⟩);go_roundg (7-m)
        case measure=>omega
        case rel=>exact⟨m+1,by omega,rfl,rfl,rfl⟩
       ·obtain rfl:m=8:=by omega
        go_wp2;go_roundg (255-j)
        case measure=>have:=d.o;omega
        case rel=>exact⟨j+1,by omega,rfl,rfl⟩
    ·have A:decide ((j:Int)<256)=false:=by simp;omega
     have X:Hid (tab j=tab 256):=by have:=d.o;have:j=256:=by omega
                                    rw[this];rfl
     clear h d;have p:=P9 j;have r:=vV j;have s:(prog.info? 268).map (·.size)=some (tab j).size:=by rw[p];exact size107
     have y:prog.underlying 268=some (.array 256 22):=by kernel_rfl
     have f:((w.alloc (.cells a 268)).alloc (.cells (tab j) 268)).heap[w.heap.size+1]?=some (.cells (tab j) 268 (0,0)):=by have:=heap_alloc_last (w.alloc (.cells a 268)) (.cells (tab j) 268);simpa using this
     have u:((w.alloc (.cells a 268)).alloc (.cells (tab j) 268)).heap[w.heap.size]?=some (.cells a 268 (0,0)):=by rw[(MapKept.heap_alloc _ _).2 _ (by simp)];exact heap_alloc_last w _
     have b:a.size=(tab j).size:=by rw[n.o,P9,P9]
     have t:TF w ((w.alloc (.cells a 268)).alloc (.cells (tab j) 268)):=TA.tr TA;generalize(w.alloc (.cells a 268)).alloc (.cells (tab j) 268)=l at *;generalize tab j=T at *;have U:Hid (TF w l):=t;have S:Hid (l.heap[w.heap.size]?=some (.cells a 268 (0,0))∧a.size=T.size∧T.all (·.oneCell')=true∧(prog.info? 268).map (·.size)=some T.size∧prog.underlying 268=some (.array 256 22)):=⟨u,b,r,s,y⟩;have L:Hid (l.heap[w.heap.size+1]?=some (.cells T 268 (0,0))):=f;clear p r s y f u b t
     go_wp2_with(first
       |(refine wpList_load_row rfl 268 _ rfl (w.heap.size+1) rfl 268 T (0,0) _ L.o S.o.2.2.2.2 rfl S.o.2.2.2.1 ?_)
       |(refine ej rfl 268 _ _ rfl w.heap.size T a 268 rfl rfl S.o.1 S.o.2.2.2.1 S.o.2.1 S.o.2.2.1 ?_;intro w2 D C _))
     refine bodyPost_ret (v:=.agg T) (results_cell_row rfl _ _ w.heap.size 268 T (0,0) _ rfl D S.o.2.2.2.2 rfl S.o.2.2.2.1) rfl ⟨by rw[X.o],?_⟩;exact(U.o.comp C fun i E q=>q.elim id fun q=>by omega)
abbrev pt(b:Nat):Value:=.pointer (some ⟨b,0,none⟩)
def X8(w:World)(b:Nat)(c:Array Value)(T:TypeId):Prop:=w.heap[b]?=some (.cells c T (0,0))
theorem X8.turned{S:Nat->Prop}{w w':World}{b:Nat}{c:Array Value}{T:TypeId}(h:X8 w b c T)(d:d7 S w w')(a:¬S b):X8 w' b c T:=(d.block b (i6 h) a).trans h
def p6(s:ByteArray):List Nat:=s.data.toList.map (·.toNat)
theorem dI(s:ByteArray):(p6 s).length=s.size:=by unfold p6;rw[List.length_map,Array.length_toList];rfl
theorem kN(s:ByteArray):∀b∈p6 s,b<256:=by intro b a;obtain⟨x,_,rfl⟩:=List.mem_map.1 a;exact x.toNat_lt
theorem qv(w:World)(s:ByteArray):∃cap c,(convert 9 83 (.string s)).run prog w=.ok (.slice (some ⟨w.heap.size,0,none⟩) s.size cap) c∧TF w c∧w.heap.size<c.heap.size∧
  s.size<=cap∧(∀j x,(p6 s)[j]?=some x->c.cell? ⟨w.heap.size,j,none⟩=some (.int .u8 (x:Nat)))∧(∀j,j<s.size->c.frozen? ⟨w.heap.size,j,none⟩=false)∧
  ∃d,c.heap[w.heap.size]?=some (.cells d 5 (d.size,d.size+1))∧s.size<=d.size:=by
 have h:=run_bytes_of_string (P:=prog) w 9 83 5 s underlying9 underlying83 underlying5;have f:s.size<=(bytesRow s (grownCap w s.size 0 5)).size:=by unfold bytesRow;rw[Array.size_append,Array.size_map];exact Nat.le_add_right s.data.size _
 refine⟨_,_,h,TD.tr TA,by simp,?_,?_,?_,?_⟩
 ·exact grownCap_ge w s.size 0 5
 ·intro j x b;have e:j<s.data.size:=by have:=(LA.1 b).1;rw[dI]at this;exact this
  have a:=World.cell?_alloc_mark w.drew (bytesRow s (grownCap w s.size 0 5)) 5 ((bytesRow s (grownCap w s.size 0 5)).size,(bytesRow s (grownCap w s.size 0 5)).size+1) j;rw[bytesRow_at s _ j e]at a;have hx:s.data[j].toNat=x:=by
   unfold p6 at b;rw[List.getElem?_map]at b;have h2:s.data.toList[j]?=some s.data[j]:=by rw[Array.getElem?_toList];exact Array.getElem?_eq_getElem e
   rw[h2]at b;exact Option.some.inj b
  rw[hx]at a;exact a
 ·intro j b;have a:=World.frozen?_alloc_mark w.drew (bytesRow s (grownCap w s.size 0 5)) 5 (bytesRow s (grownCap w s.size 0 5)).size ((bytesRow s (grownCap w s.size 0 5)).size+1) j;have h1:decide ((bytesRow s (grownCap w s.size 0 5)).size<=j)=false:=by simp;omega
  rw[h1]at a;exact a
 ·refine⟨_,?_,f⟩;exact heap_alloc_last w.drew _
def Bc(a:World)(c:Nat)(s:ByteArray)(g:Nat)(x i:Value)(wr:World):Prop:=∃j:Nat,j+g=s.size∧i=.int .i64 j∧x=.int .u32 (Crc.feed c ((p6 s).take j):Nat)∧wr=a
theorem no(c:Nat)(l:List Nat)(j x:Nat)(h:l[j]?=some x):Crc.feed c (l.take (j+1))=Crc.turns 8 (Crc.feed c (l.take j)^^^x):=by rw[List.take_add_one,h,Crc.feed_append];rfl
theorem yX(g c:Nat)(s:ByteArray)(w:World)(r:X8 w g (tab 256) 268)(m:c<4294967296)(u:s.size<=4611686018427387904):
  CZ 208 #[pt g,.int .u32 c,.string s] w (RT (.int .u32 (Crc.feed c (p6 s):Nat)) w):=by
 obtain⟨cap,a,G,l,t,E,p,-,-⟩:=qv w s;have k:X8 a g (tab 256) 268:=r.turned l fun q=>q
 have v:∀x,x<256->a.cell? ⟨g,x,none⟩=some (.int .u32 (Crc.turns 8 x:Nat)):=by intro x hx;have:=g9 k x (.int .u32 (Crc.turns 8 x:Nat)) (by rw[kM _ _ hx,if_pos hx]);exact this
 have I:g<a.heap.size:=i6 k;have F:Hid (∀j x,(p6 s)[j]?=some x->a.cell? ⟨w.heap.size,j,none⟩=some (.int .u8 (x:Nat))):=p;have T:Hid (∀x,x<256->a.cell? ⟨g,x,none⟩=some (.int .u32 (Crc.turns 8 x:Nat))):=v;have U:Hid (TF w a):=l;have C:Hid (c<4294967296):=m;have W:Hid (s.size<=4611686018427387904):=u;clear r k p v l m u;generalize w.heap.size=n at *;go_enter func208,ntmps208;go_wp2;go_loopg[1,12] s.size (fun g x i wr=>Bc a c s g x i wr)
 case atStart=>exact⟨0,Nat.zero_add _,rfl,rfl,rfl⟩
 case round=>
  obtain⟨j,J,rfl,rfl,rfl⟩:=hrel;by_cases t:j<s.size
  ·obtain⟨b,d⟩:∃b,(p6 s)[j]?=some b:=⟨_,LB (by rw[dI];exact t)⟩;have e:b<256:=kN s b (LI d);have K:=F.o j b d;have h:=no c _ j b d;have H:=Crc.feed_lt c ((p6 s).take j) C.o fun x hx=>kN s x (LY hx)
   rw[Crc.step_table _ _ e]at h;have N:Hid (Crc.feed c ((p6 s).take (j+1))=_):=h;clear h d;generalize Crc.feed c ((p6 s).take j)=f at *;have hx:bits .xor .u8 ((f:Int)% 256) (b:Int)=(((f% 256)^^^b:Nat):Int):=by have:=u8_xor_nat (f% 256) b (by omega) e;simpa using this
   have B:(f% 256)^^^b<256:=Nat.xor_lt_two_pow (n:=8) (by omega) e;generalize(f% 256)^^^b=x at *;have L:=T.o x B;have D:Crc.turns 8 x<4294967296:=Crc.turns_lt 8 x (by omega);generalize Crc.turns 8 x=y at *;have M:bits .xor .u32 (y:Int) ((f:Int) / 256)=((y^^^(f / 256):Nat):Int):=by have:=u32_xor_nat y (f / 256) D (by omega);simpa using this
   have A:wrap64 ((j:Int)+1)=((j+1:Nat):Int):=by have:=W.o;simp[wrap64];omega
   go_wp2;go_roundg (gk-1)
   case measure=>omega
   case rel=>exact⟨j+1,by omega,by rw[A],by rw[N.o],rfl⟩
  ·have z:(p6 s).take j=p6 s:=LQ (by rw[dI];omega);rw[z];go_wp2;go_ret;exact⟨rfl,U.o⟩
def tG(a:World)(s:ByteArray)(g:Nat)(x i:Value)(wr:World):Prop:=(g=1∧i=.int .i64 0∧x=.int .u32 4294967295∧wr=a)∨(g=0∧i=.int .i64 1∧x=.int .u32 (Crc.feed 4294967295 (p6 s):Nat)∧TF a wr)
theorem jn(s:ByteArray):Crc.sum (p6 s)=4294967295-Crc.feed 4294967295 (p6 s):=rfl
theorem iz(c:Nat)(s:ByteArray)(h:c<4294967296):Crc.feed c (p6 s)<4294967296:=Crc.feed_lt c _ h (kN s)
theorem ot(f:Nat)(h:f<4294967296):bits .xor .u32 IntKind.u32.max (f:Int)=((4294967295-f:Nat):Int):=by
 have h1:IntKind.u32.max=((4294967295:Nat):Int):=by decide
 rw[h1,u32_xor_nat _ _ (by decide) h];have h2:((4294967295:Nat)^^^f)=4294967295-f:=by have:=BitVec.toNat_not (x:=BitVec.ofNat 32 f);rw[<-BitVec.allOnes_xor]at this;rw[BitVec.toNat_xor,BitVec.toNat_allOnes,BitVec.toNat_ofNat,Nat.mod_eq_of_lt (by omega)]at this;simpa using this
 rw[h2]
theorem kO(b off cap:Nat)(s:ByteArray)(w:World)(l:w.cell? ⟨b,off,none⟩=some (.string s))(m:b<w.heap.size)(F:s.size<=4611686018427387904):
  CZ 124 #[.slice (some ⟨b,off,none⟩) 1 cap] w (RT (.int .u32 (Crc.sum (p6 s):Nat)) w):=by
 have I:=zero107;have W:Hid (s.size<=4611686018427387904):=F;have n:=yW w;have d:Hid ((prog.info? 268).map (·.size)=some (tab 256).size∧(tab 0).size=(tab 256).size∧(tab 256).all (·.oneCell')=true):=⟨by rw[P9];exact size107,by rw[P9,P9],vV 256⟩;rw[jn];have hF:Hid (Crc.feed 4294967295 (p6 s)<4294967296):=iz _ s (by decide);have u:=fun(c g:Nat)(w:World)(B:X8 w g (tab 256) 268)(A:c<4294967296)=>yX g c s w B A W.o
 have J:Hid (∀(c g:Nat)(w:World)(B:X8 w g (tab 256) 268)(A:c<4294967296),CZ 208 #[pt g,.int .u32 c,.string s] w (RT (.int .u32 (Crc.feed c (p6 s):Nat)) w)):=u;clear F u;obtain⟨f,y⟩:=EX (tab 0);obtain⟨t,k⟩:=EX (tab 256);rw[<-y]at I d;rw[<-k]at n d;have X:Hid (t=tab 256):=k;clear y k;go_enter func124,ntmps124;go_wp2_with fail;refine n.mono ?_;rintro e a⟨rfl,j⟩;clear n;rw[<-World.cell?_of_block (w':=a) (j.block b m (fun q=>q))]at l;have z:b<a.heap.size:=LC m j.size;have U:Hid (TF w a):=j;clear j m;have S:=heap_alloc_last a (.cells f 268);have S':Hid ((a.alloc (.cells f 268)).heap[a.heap.size]?=some (.cells f 268 (0,0))):=S;clear S
 go_wp2_with(first
    |(refine ej rfl 268 _ _ rfl a.heap.size t f 268 rfl rfl S'.o d.o.1 d.o.2.1 d.o.2.2 ?_;intro w2 H p _))
 have C:X8 w2 a.heap.size (tab 256) 268:=by rw[<-X.o];exact H
 have G:TF w w2:=U.o.comp ((d7.alloc (fun _=>False) a (.cells f 268)).comp (T:=(· =a.heap.size)) p fun i _ q=>q.elim (fun q=>q.elim) id) fun i O q=>q.elim id fun q=>by have:=U.o.size;omega
 have K:w2.cell? ⟨b,off,none⟩=some (.string s):=by
  rw[World.cell?_of_block (w:=a) ?_]
  ·exact l
  ·rw[p.block b (by simp;omega) (by omega),(MapKept.heap_alloc a _).2 b z]
 have M:b<w2.heap.size:=n7 K;have r:Hid (X8 w2 a.heap.size (tab 256) 268):=C;have v:Hid (TF w w2):=G;clear C G H p l z I S' d U;generalize a.heap.size=g at *;go_loopg[4,10] 1 (fun g x i wr=>tG w2 s g x i wr)
 case atStart=>exact .inl ⟨rfl,rfl,rfl,rfl⟩
 case round=>
  rcases hrel with⟨rfl,rfl,rfl,rfl⟩|⟨rfl,rfl,rfl,h⟩
  ·have D:=J.o 4294967295 g wr r.o (by decide);rw[show((4294967295:Nat):Int)=4294967295 from rfl]at D;have L:Hid (tG wr s 0 (.int .u32 (Crc.feed 4294967295 (p6 s):Nat)) (.int .i64 1)=tG wr s 0 (.int .u32 (Crc.feed 4294967295 (p6 s):Nat)) (.int .i64 1)):=rfl;clear hF;go_wp2_with(go_fit D;rintro e w'⟨rfl,h⟩);go_roundg 0
   case measure=>omega
   case rel=>exact .inr ⟨rfl,rfl,rfl,h⟩
  ·have N:=ot _ hF.o;have E:Hid (∀x,x=Crc.feed 4294967295 (p6 s)->((4294967295-x:Nat):Int)=((4294967295-Crc.feed 4294967295 (p6 s):Nat):Int)):=fun x hx=>by rw[hx]
   have T:Hid (TF w wr):=v.o.tr h;clear h v r;go_wp2;go_ret;exact⟨rfl,T.o⟩
def Bd(w:World)(s:ByteArray)(g:Nat)(x i:Value)(wr:World):Prop:=∃j:Nat,j+g=s.size∧i=.int .i64 j∧x=.int .u32 (Crc.feed 4294967295 ((p6 s).take j):Nat)∧wr=w
theorem Be(s:ByteArray)(j:Nat)(h:j<s.size):(p6 s)[j]?=some s[j].toNat:=by
 unfold p6;rw[List.getElem?_map];have h2:s.data.toList[j]?=some s.data[j]:=by rw[Array.getElem?_toList];exact Array.getElem?_eq_getElem h
 rw[h2];rfl
theorem yY(s:ByteArray)(w:World)(l:s.size<=4611686018427387904):
  CZ 271 #[.int .u32 0,.string s] w fun e w'=>e=.returned (.int .u32 (Crc.sum (p6 s):Nat))∧w=w':=by
 rw[jn];have hF:Hid (Crc.feed 4294967295 (p6 s)<4294967296):=iz _ s (by decide);have W:Hid (s.size<=4611686018427387904):=l;have u:=ot 0 (by decide);simp at u;clear l;go_enter func271,ntmps271;go_wp2;go_loopg[5,6] s.size (fun g x i wr=>Bd w s g x i wr)
 case atStart=>exact⟨0,Nat.zero_add _,rfl,rfl,rfl⟩
 case round=>
  obtain⟨j,B,rfl,rfl,rfl⟩:=hrel;by_cases h:j<s.size
  ·have b:=Be s j h;have r:s[j].toNat<256:=s[j].toNat_lt;have A:s[j]?=some s[j]:=ByteArray.getElem?_lt' s j h;have d:=no 4294967295 _ j _ b;have a:=Crc.feed_lt 4294967295 ((p6 s).take j) (by decide) fun x hx=>kN s x (LY hx)
   have N:Hid (Crc.feed 4294967295 ((p6 s).take (j+1))=_):=d;clear d b;generalize Crc.feed 4294967295 ((p6 s).take j)=f at *;have hx:bits .xor .u32 (f:Int) ((s[j].toNat:Int)% 4294967296)=((f^^^s[j].toNat:Nat):Int):=by rw[Int.emod_eq_of_lt (by omega) (by omega)];exact u32_xor_nat f s[j].toNat a (by omega)
   have p:f^^^s[j].toNat<4294967296:=Nat.xor_lt_two_pow (n:=32) a (by omega);generalize f^^^s[j].toNat=x at *;have y:wrap64 ((j:Int)+1)=((j+1:Nat):Int):=by have:=W.o;simp[wrap64];omega
   have q:Hid (x<4294967296):=p;clear a r p;go_wp2;have v:∀(m:Nat)w,CZ 324 #[.int .u32 (Crc.turns m x:Nat)] w fun e w'=>e=.returned (.int .u32 (Crc.turns (m+1) x:Nat))∧w=w':=by intro m w;rw[Crc.turns_succ];exact yV _ (Crc.turns_lt m x q.o) w
   go_loopg[5,7] 8 (fun g c k z=>∃m:Nat,m+g=8∧k=.int .i64 m∧c=.int .u32 (Crc.turns m x:Nat)∧z=wr)
   case atStart=>exact⟨0,rfl,rfl,by simp[Crc.turns],rfl⟩
   case round=>
    obtain⟨m,D,rfl,rfl,rfl⟩:=hrel;by_cases C:m<8
    ·go_wp2_with(go_fit(v _ _);rintro e w'⟨rfl,rfl⟩);go_roundg (7-m)
     case measure=>omega
     case rel=>exact⟨m+1,by omega,rfl,rfl,rfl⟩
    ·obtain rfl:m=8:=by omega
     go_wp2;go_roundg (s.size-j-1)
     case measure=>omega
     case rel=>exact⟨j+1,by omega,by rw[y],by rw[N.o],rfl⟩
  ·have t:(p6 s).take j=p6 s:=LQ (by rw[dI];omega);rw[t];have a:=ot _ hF.o;go_wp2;go_ret;exact⟨rfl,rfl⟩
def Bf(w:World)(s:ByteArray)(g:Nat)(x i:Value)(wr:World):Prop:=(g=1∧i=.int .i64 0∧x=.int .u32 0∧wr=w)∨(g=0∧i=.int .i64 1∧x=.int .u32 (Crc.sum (p6 s):Nat)∧wr=w)
theorem li(b off cap:Nat)(s:ByteArray)(w:World)(f:w.cell? ⟨b,off,none⟩=some (.string s))(h:b<w.heap.size)(c:s.size<=4611686018427387904):
  CZ 190 #[.slice (some ⟨b,off,none⟩) 1 cap] w fun e w'=>e=.returned (.int .u32 (Crc.sum (p6 s):Nat))∧w=w':=by
 have d:=yY s w c;clear c;generalize a:Crc.sum (p6 s)=S at *;have E:Hid (Crc.sum (p6 s)=S):=a;clear a;go_enter func190,ntmps190;go_wp2;go_loopg[3,4] 1 (fun g x i wr=>Bf w s g x i wr)
 case atStart=>exact .inl ⟨rfl,rfl,rfl,rfl⟩
 case round=>
  rcases hrel with⟨rfl,rfl,rfl,rfl⟩|⟨rfl,rfl,rfl,rfl⟩
  ·go_wp2_with(go_fit d;rintro e w'⟨rfl,rfl⟩);go_roundg 0
   case measure=>omega
   case rel=>exact .inr ⟨rfl,rfl,by rw[E.o],rfl⟩
  ·rw[E.o];go_wp2;go_ret;exact⟨rfl,rfl⟩
def fz(v n j:Nat):Array Value:=((List.range n).map fun i=>Value.int .u8 (if i<j then((v / 256^(n-1-i)% 256:Nat):Int)else 0)).toArray
theorem ek(v n j:Nat):(fz v n j).size=n:=by simp[fz]
theorem fH(v n j i:Nat)(h:i<n):(fz v n j)[i]?=some (.int .u8 (if i<j then((v / 256^(n-1-i)% 256:Nat):Int)else 0)):=by simp[fz,h]
theorem yZ(v n i:Nat)(h:i<n):(fz v n i).setIfInBounds i (.int .u8 ((v / 256^(n-1-i)% 256:Nat):Int))=fz v n (i+1):=by
 apply Array.ext_getElem?;intro j;rw[Array.getElem?_setIfInBounds];by_cases b:j<n
 ·rw[fH _ _ _ _ b,fH _ _ _ _ b,ek];by_cases a:i=j
  ·subst a;simp[h]
  ·rw[if_neg a];have:(j<i)=(j<i+1):=by apply propext;omega
   simp[this]
 ·have h1:(fz v n i)[j]?=none:=by rw[Array.getElem?_eq_none];rw[ek];omega
  have h2:(fz v n (i+1))[j]?=none:=by rw[Array.getElem?_eq_none];rw[ek];omega
  rw[h1,h2,if_neg (by omega)]
theorem xh(v n:Nat):madeCells #[.int .u8 0] (n*1)=fz v n 0:=by
 apply Array.ext_getElem?;intro i;by_cases a:i<n
 ·rw[fH _ _ _ _ a];simp[madeCells,a,Nat.mod_one]
 ·have h1:(fz v n 0)[i]?=none:=by rw[Array.getElem?_eq_none];rw[ek];omega
  have h2:(madeCells #[Value.int .u8 0] (n*1))[i]?=none:=by rw[Array.getElem?_eq_none];rw[size_madeCells];omega
  rw[h1,h2]
theorem xi(v n:Nat)(f:n<=8)(w:World):(Instr.makeSlice 83 (.int .i64 n) (.int .i64 n)).run prog w=.ok (.slice (some ⟨w.heap.size,0,none⟩) n n) (w.alloc (.cells (fz v n 0) 5)):=by
 have b:(prog.info? 5).map (fun i=>(i.zero,i.size,i.bytes))=some (some (.int .u8 0),1,1):=by kernel_rfl
 obtain⟨i,a,c,d,e⟩:=info_parts b;have:=run_make (P:=prog) w 83 5 i _ underlying83 a c .i64 .i64 n n (by omega) (by omega) (by rw[e];omega) (by omega);rw[d]at this;simp only[Value.cells,xh v n,Int.toNat_natCast]at this;exact this
theorem xj(v n:Nat)(w:World):(convert 83 9 (.slice (some ⟨w.heap.size,0,none⟩) n n)).run prog (w.alloc (.cells (fz v n n) 5))=.ok (.string ⟨(m9 v n).toArray⟩) (w.alloc (.cells (fz v n n) 5)):=by
 have:=run_convert_bytes_back (P:=prog) (w.alloc (.cells (fz v n n) 5)) 83 9 5 ⟨w.heap.size,0,none⟩ n (m9 v n) underlying83 underlying5 underlying9 (fun j a=>by
  have b:j<n:=by rw[j6]at a;exact a
  have c:=g9 (heap_alloc_last w (.cells (fz v n n) 5)) j _ (fH v n n j b);rw[Addr.add_lit,Nat.zero_add,c,if_pos b,jQ];simp)
 rw[j6]at this;exact this
def DI(w:World)(v n:Nat)(g:Nat)(i:Value)(wr:World):Prop:=∃j:Nat,j+g=n∧i=.int .i64 j∧wr=w.alloc (.cells (fz v n j) 5)
theorem p5(v n:Nat)(w:World)(d:v<18446744073709551616)(h:n<=8):
  CZ 245 #[.int .u64 v,.int .i64 n] w (RT (.string ⟨(m9 v n).toArray⟩) w):=by
 have k:Hid (v<18446744073709551616):=d;have f:=xi v n h;have l:=xj v n w;clear d;go_enter func245,ntmps245;go_wp2;clear f;go_loopg[6] n (fun g i wr=>DI w v n g i wr)
 case atStart=>exact⟨0,Nat.zero_add _,rfl,rfl⟩
 case round=>
  obtain⟨j,m,rfl,rfl⟩:=hrel;by_cases b:j<n
  ·have c:=yZ v n j b
   have a:((v / 256^(n-1-j)% 256:Nat):Int)=(v:Int) / 2^(8*(n-1-j))% 256:=by
    rw[show(256:Nat)=2^8 from rfl,<-Nat.pow_mul]
    push_cast
    rfl
   have o:(fz v n j).setIfInBounds j (.int .u8 ((v:Int) / 2^(8*(n-1-j))% 256))=fz v n (j+1):=by rw[<-a];exact c
   clear a c;have p:=ek v n j;have e:=fH v n j j b;rw[if_neg (by omega)]at e;go_wp2;go_roundg (n-j-1)
   case measure=>omega
   case rel=>exact⟨j+1,by omega,rfl,rfl⟩
  ·obtain rfl:j=n:=by omega
   go_wp2;go_ret;exact⟨rfl,TA⟩
def J9(s:ByteArray):ByteArray:=s++⟨(m9 (Crc.sum (p6 s)) 4).toArray⟩
theorem lj(v n:Nat):(⟨(m9 v n).toArray⟩:ByteArray).size=n:=by show(m9 v n).toArray.size=n;simp[j6]
theorem jR(s:ByteArray):(J9 s).size=s.size+4:=by unfold J9;rw[ByteArray.size_append',lj]
theorem O0(s:ByteArray):Crc.sum (p6 s)<4294967296:=by rw[jn];omega
theorem gY(s:ByteArray)(w:World)(b:s.size<=4611686018427387904):
  CZ 280 #[.string s] w (RT (.string (J9 s)) w):=by
 have a:=O0 s;have f:=li w.heap.size 0 1 s (w.alloc (.cells #[.string s] 9)) (g9 (heap_alloc_last w _) 0 _ rfl) (by simp) b;have E:Hid (J9 s=s++⟨(m9 (Crc.sum (p6 s)) 4).toArray⟩):=rfl;have d:∀w,CZ 245 #[.int .u64 (Crc.sum (p6 s):Nat),.int .i64 4] w (RT (.string ⟨(m9 (Crc.sum (p6 s)) 4).toArray⟩) w):=fun w=>p5 (Crc.sum (p6 s)) 4 w (by omega) (by omega)
 have c:s.size+(⟨(m9 (Crc.sum (p6 s)) 4).toArray⟩:ByteArray).size<=9223372036854775807:=by rw[lj];omega
 have i:∀w,(Op.stringOp .add s ⟨(m9 (Crc.sum (p6 s)) 4).toArray⟩).run prog w=.ok (.string (J9 s)) w:=fun w=>run_string_add_sum w s _ c
 have h:Hid (Crc.sum (p6 s)<4294967296):=a;clear b c;generalize(⟨(m9 (Crc.sum (p6 s)) 4).toArray⟩:ByteArray)=t at *;generalize Crc.sum (p6 s)=S at *;have j:((S:Int)% 18446744073709551616)=S:=by omega
 clear a;go_enter func280,ntmps280;go_wp2_with(first|(go_fit f;rintro e w'⟨rfl,rfl⟩)|(go_fit(d _);rintro e w2⟨rfl,g⟩));go_ret;exact⟨rfl,TA.tr g⟩
end Go.Proofs.YtofcogekgcgjhaaGreatDoor
