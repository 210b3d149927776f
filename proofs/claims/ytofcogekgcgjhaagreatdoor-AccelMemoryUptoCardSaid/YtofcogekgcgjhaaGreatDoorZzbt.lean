/- Packed. -/
import Derived.Test.YtofcogekgcgjhaaGreatDoorZzbp
import Derived.Test.YtofcogekgcgjhaaGreatDoorZzbo
import Derived.Test.YtofcogekgcgjhaaGreatDoorZzbs
set_option maxRecDepth 100000
set_option maxHeartbeats 8000000
namespace Go.Proofs.YtofcogekgcgjhaaGreatDoor
open Go.RowKit Go.Mine Go.Mine.Ac Go.Proofs.Tryz
theorem tp(b:Nat)(W:World):(Builtin.append_ #[113,113] 113 #[.slice (some ⟨b,0,none⟩) 0 0,.slice none 0 0]).run prog W=.ok (.slice (some ⟨b,0,none⟩) 0 0) W:=by obtain⟨i,a,c,d,e⟩:=info_parts infoC120;simp[Builtin.append_,run_underlying underlying113,sizeOf,typeInfo,zeroValue,a,Builtin.lenOf,Builtin.firstCells,storeCells]
theorem tq(b:Nat)(W:World):(Builtin.append_ #[114,114] 114 #[.slice (some ⟨b,0,none⟩) 0 0,.slice none 0 0]).run prog W=.ok (.slice (some ⟨b,0,none⟩) 0 0) W:=by obtain⟨i,a,c,d,e⟩:=info_parts infoC123;simp[Builtin.append_,run_underlying underlying114,sizeOf,typeInfo,zeroValue,a,Builtin.lenOf,Builtin.firstCells,storeCells]
theorem Z7{W:World}{b:Nat}{e:TypeId}(size:Nat)(h:W.heap[b]?=some (.cells #[] e)):Sl W (fun x=>x=b) e size (.slice (some ⟨b,0,none⟩) 0 0) [] 0:=⟨by simp,.inr ⟨b,0,0,#[],rfl,rfl,h,LS _,Nat.zero_le _,by simp,by simp⟩⟩
theorem jM{W:World}{b:Nat}(l:List Value)(e:l.length=3)(h1:∀a∈l,a.oneCell'=true)(c:W.heap[b]?=some (.cells l.toArray 120)):Src prog 3 113 (.slice (some ⟨b,0,none⟩) 1 1) 1 l W:=by rw[<-e];refine Src.ofSlice _ underlying113 ⟨b,0,none⟩ 1 1 l (by simp) (fun j a d=>?_) h1;rw[Addr.add_lit,Nat.zero_add];exact g9 c j a (by simpa using d)
theorem oo{W:World}{b:Nat}(l:List Value)(e:l.length=6)(h1:∀a∈l,a.oneCell'=true)(c:W.heap[b]?=some (.cells l.toArray 123)):Src prog 6 114 (.slice (some ⟨b,0,none⟩) 1 1) 1 l W:=by rw[<-e];refine Src.ofSlice _ underlying114 ⟨b,0,none⟩ 1 1 l (by simp) (fun j a d=>?_) h1;rw[Addr.add_lit,Nat.zero_add];exact g9 c j a (by simpa using d)
theorem qi{w:World}(o1 o2 d:Obj):TF w (((w.alloc o1).alloc o2).alloc d)∧(((w.alloc o1).alloc o2).alloc d).heap[w.heap.size]?=some o1∧(((w.alloc o1).alloc o2).alloc d).heap[w.heap.size+1]?=some o2∧(((w.alloc o1).alloc o2).alloc d).heap[w.heap.size+1+1]?=some d:=by
 obtain⟨t,a,b⟩:=p8 (w:=w) o1 o2;have c:=i8 ((w.alloc o1).alloc o2) d;have e:((w.alloc o1).alloc o2).heap.size=w.heap.size+1+1:=by simp
 rw[e]at c;exact⟨t.new _,B4 a,B4 b,c⟩
theorem xb{w:World}{S:Nat->Prop}{d n:Nat}{D c:Dk}{tmp a name:ByteArray}(j:G9 w S d D)(k:D.Ok)(b:R7 D n)(m:n<=1000000)(l:a.size<=1099511627776)(h:D3 D tmp a name=(c,0)):
  CZ 200 #[pt d,.string tmp,.string a,.string name] w fun e w'=>e=.returned (.int .i64 0)∧I1 w S d c w':=by
 obtain⟨D1,D2,f,h1,h2,h3,h4⟩:=jj h;have f1:R7 D1 (n+1):=by have:=b.create tmp;rw[h1]at this;exact this
 have g:R7 D2 (n+1):=by have:=f1.append tmp a;rw[h2]at this;exact this
 have i:R7 f (n+1):=by have:=g.sync tmp;rw[h3]at this;exact this
 exact vj j k (by have:=b.1;omega) (by have:=b.2;omega) (by have:=i.1;omega) l h1 h2 h3 h4
theorem mH{n:Nat}{d:Dk}(h:R7 d n)(b:d.Ok)(tmp a name:ByteArray):R7 (D3 d tmp a name).1 (n+2)∧(D3 d tmp a name).1.Ok:=
 cZ (P:=fun n d=>R7 d n∧d.Ok) (fun n d q=>⟨q.1.mono (Nat.le_succ _),q.2⟩) (fun n d s q=>⟨q.1.create s,q.2.createOk s⟩) (fun n d s t q=>⟨q.1.append s t,q.2.appendOk s t⟩) (fun n d s q=>⟨q.1.sync s,q.2.syncOk s⟩)
  (fun n d s t q=>⟨q.1.rename s t,q.2.renameOk s t⟩) ⟨h,b⟩ tmp a name
def ER(a b:ByteArray):Bool:=Op.bytesLess a.data.toList b.data.toList
def DE(last:ByteArray)(l:Nms):ByteArray:=l.foldl (fun a s=>if ER last s.1=true∧(a=emp∨ER s.1 a=true)then s.1 else a) emp
theorem eK(last:ByteArray)(l:Nms):N9 last l=DE last l:=by
 have e:∀a b:ByteArray,ei a b=ER a b:=fun a b=>by unfold ei ER;rw[ByteArray.toList_eq,ByteArray.toList_eq]
 unfold N9 DE fg;simp only[e]
theorem En(q:Nat)(L:ByteArray):ir [logB] (I4 q L).seen:=by
 refine⟨by decide,by decide,fun j a=>?_⟩;rcases(show j=0∨j=1 by simp at a;omega)with rfl|rfl
 ·show N9 emp n1=logB;rw[eK];decide
 ·show N9 logB n1=emp;rw[eK];decide
theorem AS(q:Nat)(L T C:ByteArray):ir [chainB,g0B,logB] (jL q L T C).seen:=by
 refine⟨by decide,by decide,fun j a=>?_⟩;rcases(show j=0∨j=1∨j=2∨j=3 by simp at a;omega)with rfl|rfl|rfl|rfl
 ·show N9 emp n3=chainB;rw[eK];decide
 ·show N9 chainB n3=g0B;rw[eK];decide
 ·show N9 g0B n3=logB;rw[eK];decide
 ·show N9 logB n3=emp;rw[eK];decide
theorem nums_3:∀x∈[chainB,g0B,logB],(Ch.dB x).2=true->(Ch.dB x).1=0:=by
 have a:Ch.H7 chainB=(0,false):=by decide
 have b:Ch.H7 logB=(0,false):=by decide
 have c:Ch.H7 g0B=(0,true):=by
  unfold Ch.H7;have h1:g0B.extract 0 6=Ch.prefBA:=by decide
  have h2:Lib.atoiAll (g0B.extract 6 g0B.size).data.toList=.ok 0:=by decide
  rw[if_pos h1,h2];simp only[name0,if_true]
 intro x hx h;simp only[List.mem_cons,List.not_mem_nil,or_false]at hx;rw[<-Ch.zk]at h ⊢;rcases hx with rfl|rfl|rfl
 ·rw[a]
 ·rw[c]
 ·rw[b]
theorem yP{w:World}{S SR:Nat->Prop}{v y q:Nat}{L T C:ByteArray}{ra:Option Addr}{rc:Nat}{g:Gr}(tab:∀W,d7 (fun b=>S b∨b=y) w W->Ch.jr W)(hD:G9 w S v (I4 q L))(aa:(I4 q L).Ok)(N:∀b,S b->b<w.heap.size)(hy:X8 w y #[pt v,.slice none 0 0,.slice none 0 0] 178)(aQ:¬S y)
  (hr:N0 w SR ra rc g.rows) (aK:∀b,SR b->b<w.heap.size∧¬S b∧b≠y) (az:iF g) (ai:g.rows.length<=65536) (G:iV g=.tuple #[.string T,.int .i64 0]) (hC:Ch.dE [(0,(g.rows.length:Int),Crc.sum (p6 T))]=.tuple #[.string C,.int .i64 0]) (aL:T.size<=1000000000) (aJ:C.size<=1000000000) (aM:L.size+T.size+C.size<=q):
  CZ 111 #[pt y,xG ra rc g,.slice none 0 0,.slice none 0 0] w fun e w'=>e=.returned (.int .i64 0)∧W8 w S SR v y (jL q L T C) ⟨[(0,(g.rows.length:Int),Crc.sum (p6 T))],[g]⟩ w':=by
 obtain⟨x',aC⟩:∃x':Ix,x'=⟨[(0,(g.rows.length:Int),Crc.sum (p6 T))],[g]⟩:=⟨_,rfl⟩;obtain⟨Z,hZ⟩:∃Z:Ending->World->Prop,Z=fun e w'=>e=.returned (.int .i64 0)∧W8 w S SR v y (jL q L T C) x' w':=⟨_,rfl⟩
 have HZ:Hid (Z=fun e w'=>e=.returned (.int .i64 0)∧W8 w S SR v y (jL q L T C) x' w'):=hZ;rw[<-aC,<-hZ];obtain⟨n,hn⟩:=EX g.rows.length;obtain⟨u,ag⟩:=EX (Crc.sum (p6 T));have HX:Hid (x'=⟨[(0,(n:Int),u)],[g]⟩∧n=g.rows.length∧n<=65536):=i7 ⟨by rw[aC,hn,ag],hn,by omega⟩;obtain⟨D,hV⟩:=EX (w.alloc (.cells #[.int .i64 g.base,.int .i64 g.h,.int .i64 g.p,.int .i64 g.m,.int .u32 g.seed,.slice ra n rc] 123));have bb:Hid (D=w.alloc (.cells #[.int .i64 g.base,.int .i64 g.h,.int .i64 g.p,.int .i64 g.m,.int .u32 g.seed,.slice ra n rc] 123)):=hV;obtain⟨tV,R⟩:=A0 (w:=w) (.cells #[.int .i64 g.base,.int .i64 g.h,.int .i64 g.p,.int .i64 g.m,.int .u32 g.seed,.slice ra n rc] 123);rw[<-hV]at tV R;have TV:Hid (TF w D∧D.heap.size=w.heap.size+1):=i7 ⟨tV,by rw[hV];simp⟩;have aR:=i6 hy;have HY:Hid (D.heap[y]?=some (.cells #[pt v,.slice none 0 0,.slice none 0 0] 178)∧y<w.heap.size∧¬S y):=i7 ⟨j9 hy tV id,aR,aQ⟩;have HS:Hid (∀b,S b->b<w.heap.size):=N;have aT:Hid (G9 D S v (I4 q L)):=i7 (hD.turned tV fun _ _ z=>z);have bB:Hid (D.heap[w.heap.size]?=some (.cells #[.int .i64 g.base,.int .i64 g.h,.int .i64 g.p,.int .i64 g.m,.int .u32 g.seed,.slice ra n rc] 123)):=i7 R;have KB:Hid (∀W(U:Nat->Prop),d7 U D W->(∀b,U b->S b∨b=y)->W.heap[w.heap.size]?=some (.cells #[.int .i64 g.base,.int .i64 g.h,.int .i64 g.p,.int .i64 g.m,.int .u32 g.seed,.slice ra n rc] 123)):=i7 fun W U t hU=>j9 R t fun z=>by
  rcases hU _ z with k|k
  ·have:=N _ k;omega
  ·omega
 have aU:Hid (CZ 197 #[.agg #[.int .i64 g.base,.int .i64 g.h,.int .i64 g.p,.int .i64 g.m,.int .u32 g.seed,.slice ra n rc]] D (RT (.tuple #[.string T,.int .i64 0]) D)):=i7 (by
  have he:(K9 g).2=0:=by have:=G;rw[pu]at this;simp at this;omega
  have:=tm SR ra rc g D (hr.turned tV fun _ _ z=>z) az (jd he).1 (jd he).2;rw[G]at this;rw[hn];exact this)
 have am:Hid (∀(W:World)(b:Nat),W.cell? ⟨b,0,none⟩=some (.string T)->b<W.heap.size->CZ 190 #[.slice (some ⟨b,0,none⟩) 1 1] W fun e w'=>e=.returned (.int .u32 u)∧W=w'):=i7 fun W b h1 h2=>by rw[ag];exact li b 0 1 T W h1 h2 (by omega)
 have aG:Hid (N0 w SR ra rc g.rows∧∀b,SR b->b<w.heap.size∧¬S b∧b≠y):=i7 ⟨hr,aK⟩;have a8:Hid (u<4294967296):=i7 (by rw[ag];exact O0 T);have aH:Hid (∀W,d7 (fun b=>S b∨b=y) D W->Ch.jr W):=i7 fun W t=>tab W ((tV.mono fun _ _ z=>z.elim).tr t)
 have ab:Hid (Ch.dE [(0,(n:Int),u)]=.tuple #[.string C,.int .i64 0]∧T.size<=1000000000∧C.size<=1000000000∧L.size+T.size+C.size<=q∧iF g):=i7 ⟨by rw[hn,ag];exact hC,aL,aJ,aM,az⟩;have aF:Hid ((I4 q L).Ok):=aa;have c5:D.cell? ⟨w.heap.size,0,none⟩=some (.int .i64 g.base):=g9 R 0 _ rfl;have bi:D.cell? ⟨w.heap.size,1,none⟩=some (.int .i64 g.h):=g9 R 1 _ rfl;have bj:D.cell? ⟨w.heap.size,2,none⟩=some (.int .i64 g.p):=g9 R 2 _ rfl;have bk:D.cell? ⟨w.heap.size,3,none⟩=some (.int .i64 g.m):=g9 R 3 _ rfl;have bm:D.cell? ⟨w.heap.size,4,none⟩=some (.int .u32 g.seed):=g9 R 4 _ rfl;have bo:D.cell? ⟨w.heap.size,5,none⟩=some (.slice ra n rc):=g9 R 5 _ rfl;have l5:=i6 R;have bh:=fun(b:Nat)(W:World)=>tp b W
 show CZ 111 #[pt y,.agg #[.int .i64 g.base,.int .i64 g.h,.int .i64 g.p,.int .i64 g.m,.int .u32 g.seed,.slice ra g.rows.length rc],.slice none 0 0,.slice none 0 0] w Z;rw[<-hn];clear hZ hV tV R aR tab hD aa N hy aQ hr aK az ai G hC aL aJ aM hn ag aC;go_enter func111,ntmps111;go_wp2_with fail;rw[<-bb.o]
 go_upto_region 5 with(first
  |(go_fit aU.o;rintro e f⟨rfl,t1⟩;have y1:=j9 HY.o.1 t1 id;have y2:f.cell? ⟨y,1,none⟩=some (.slice none 0 0):=g9 y1 1 _ rfl;have y3:=i6 y1;clear y1;replace t1:=i7 t1)
  |(go_fit(vi f);rintro e w2⟨rfl,rfl⟩))
 have KA:Hid (∀W,TF f W->W.cell? ⟨w.heap.size,5,none⟩=some (.slice ra n rc)):=i7 fun W t=>g9 (KB.o W (fun _=>False) (t1.o.tr t) fun _ z=>z.elim) 5 _ rfl
 clear y2 y3;go_cut[12]from 33 to 45 (fun lv wr=>∃a c,lv=.slice a 1 c∧Sl wr (fun b=>f.heap.size<=b) 120 3 (.slice a 1 c) [.int .i64 0,.int .i64 n,.int .u32 u] 1∧TF f wr)
 case first=>
  obtain⟨E,M,J,X⟩:=qi (w:=f) (.cells #[] 120) (.cells #[.string T] 9) (.cells #[.int .i64 0,.int .i64 n,.int .u32 u] 120);have ap:Hid (Sl ((((f.alloc (.cells #[] 120)).alloc (.cells #[.string T] 9)).alloc (.cells #[.int .i64 0,.int .i64 n,.int .u32 u] 120)).drew) (fun x=>x=f.heap.size) 120 3 (.slice (some ⟨f.heap.size,0,none⟩) 0 0) [] 0):=i7 (Z7 3 M);have ar:Hid (Src prog 3 113 (.slice (some ⟨f.heap.size+1+1,0,none⟩) 1 1) 1 [.int .i64 0,.int .i64 n,.int .u32 u] ((((f.alloc (.cells #[] 120)).alloc (.cells #[.string T] 9)).alloc (.cells #[.int .i64 0,.int .i64 n,.int .u32 u] 120)).drew)):=i7 (jM [.int .i64 0,.int .i64 n,.int .u32 u] rfl (by simp[Value.oneCell']) (W:=((((f.alloc (.cells #[] 120)).alloc (.cells #[.string T] 9)).alloc (.cells #[.int .i64 0,.int .i64 n,.int .u32 u] 120)).drew)) X);have an:Hid (∀A r,Sl r (F2 (fun x=>x=f.heap.size) ((((f.alloc (.cells #[] 120)).alloc (.cells #[.string T] 9)).alloc (.cells #[.int .i64 0,.int .i64 n,.int .u32 u] 120)).drew)) 120 3 A ([]++[.int .i64 0,.int .i64 n,.int .u32 u]) (0+1)->d7 (fun x=>x=f.heap.size) ((((f.alloc (.cells #[] 120)).alloc (.cells #[.string T] 9)).alloc (.cells #[.int .i64 0,.int .i64 n,.int .u32 u] 120)).drew) r->Sl r (fun b=>f.heap.size<=b) 120 3 A [.int .i64 0,.int .i64 n,.int .u32 u] 1∧TF f r):=i7 fun A r h1 h2=>by
   have hz:=E.size;refine⟨h1.widen fun b z=>?_,E.draw.comp h2 fun i Y z=>?_⟩
   ·rcases z with z|z
    ·have F:b=f.heap.size:=z;show f.heap.size<=b;omega
    ·have F:(((f.alloc (.cells #[] 120)).alloc (.cells #[.string T] 9)).alloc (.cells #[.int .i64 0,.int .i64 n,.int .u32 u] 120)).heap.size<=b:=z;show f.heap.size<=b;omega
   ·rcases z with z|z
    ·exact z
    ·have F:i=f.heap.size:=z;omega
  clear E M J X;obtain⟨E,M,J,X⟩:=qi (w:=f) (.cells #[.string T] 9) (.cells #[] 120) (.cells #[.int .i64 0,.int .i64 n,.int .u32 u] 120);have aq:Hid (Sl ((((f.alloc (.cells #[.string T] 9)).alloc (.cells #[] 120)).alloc (.cells #[.int .i64 0,.int .i64 n,.int .u32 u] 120)).drew) (fun x=>x=f.heap.size+1) 120 3 (.slice (some ⟨f.heap.size+1,0,none⟩) 0 0) [] 0):=i7 (Z7 3 J);have au:Hid (Src prog 3 113 (.slice (some ⟨f.heap.size+1+1,0,none⟩) 1 1) 1 [.int .i64 0,.int .i64 n,.int .u32 u] ((((f.alloc (.cells #[.string T] 9)).alloc (.cells #[] 120)).alloc (.cells #[.int .i64 0,.int .i64 n,.int .u32 u] 120)).drew)):=i7 (jM [.int .i64 0,.int .i64 n,.int .u32 u] rfl (by simp[Value.oneCell']) (W:=((((f.alloc (.cells #[.string T] 9)).alloc (.cells #[] 120)).alloc (.cells #[.int .i64 0,.int .i64 n,.int .u32 u] 120)).drew)) X);have ao:Hid (∀A r,Sl r (F2 (fun x=>x=f.heap.size+1) ((((f.alloc (.cells #[.string T] 9)).alloc (.cells #[] 120)).alloc (.cells #[.int .i64 0,.int .i64 n,.int .u32 u] 120)).drew)) 120 3 A ([]++[.int .i64 0,.int .i64 n,.int .u32 u]) (0+1)->d7 (fun x=>x=f.heap.size+1) ((((f.alloc (.cells #[.string T] 9)).alloc (.cells #[] 120)).alloc (.cells #[.int .i64 0,.int .i64 n,.int .u32 u] 120)).drew) r->Sl r (fun b=>f.heap.size<=b) 120 3 A [.int .i64 0,.int .i64 n,.int .u32 u] 1∧TF f r):=i7 fun A r h1 h2=>by
   have hz:=E.size;refine⟨h1.widen fun b z=>?_,E.draw.comp h2 fun i Y z=>?_⟩
   ·rcases z with z|z
    ·have F:b=f.heap.size+1:=z;show f.heap.size<=b;omega
    ·have F:(((f.alloc (.cells #[.string T] 9)).alloc (.cells #[] 120)).alloc (.cells #[.int .i64 0,.int .i64 n,.int .u32 u] 120)).heap.size<=b:=z;show f.heap.size<=b;omega
   ·rcases z with z|z
    ·exact z
    ·have F:i=f.heap.size+1:=z;omega
  clear E M J X;obtain⟨E,M,J,X⟩:=qi (w:=f) (.cells #[.string T] 9) (.cells #[.int .i64 0,.int .i64 n,.int .u32 u] 120) (.cells #[] 120);have be:Hid (Sl ((((f.alloc (.cells #[.string T] 9)).alloc (.cells #[.int .i64 0,.int .i64 n,.int .u32 u] 120)).alloc (.cells #[] 120)).drew) (fun x=>x=f.heap.size+1+1) 120 3 (.slice (some ⟨f.heap.size+1+1,0,none⟩) 0 0) [] 0):=i7 (Z7 3 X);have bf:Hid (Src prog 3 113 (.slice (some ⟨f.heap.size+1,0,none⟩) 1 1) 1 [.int .i64 0,.int .i64 n,.int .u32 u] ((((f.alloc (.cells #[.string T] 9)).alloc (.cells #[.int .i64 0,.int .i64 n,.int .u32 u] 120)).alloc (.cells #[] 120)).drew)):=i7 (jM [.int .i64 0,.int .i64 n,.int .u32 u] rfl (by simp[Value.oneCell']) (W:=((((f.alloc (.cells #[.string T] 9)).alloc (.cells #[.int .i64 0,.int .i64 n,.int .u32 u] 120)).alloc (.cells #[] 120)).drew)) J);have bd:Hid (∀A r,Sl r (F2 (fun x=>x=f.heap.size+1+1) ((((f.alloc (.cells #[.string T] 9)).alloc (.cells #[.int .i64 0,.int .i64 n,.int .u32 u] 120)).alloc (.cells #[] 120)).drew)) 120 3 A ([]++[.int .i64 0,.int .i64 n,.int .u32 u]) (0+1)->d7 (fun x=>x=f.heap.size+1+1) ((((f.alloc (.cells #[.string T] 9)).alloc (.cells #[.int .i64 0,.int .i64 n,.int .u32 u] 120)).alloc (.cells #[] 120)).drew) r->Sl r (fun b=>f.heap.size<=b) 120 3 A [.int .i64 0,.int .i64 n,.int .u32 u] 1∧TF f r):=i7 fun A r h1 h2=>by
   have hz:=E.size;refine⟨h1.widen fun b z=>?_,E.draw.comp h2 fun i Y z=>?_⟩
   ·rcases z with z|z
    ·have F:b=f.heap.size+1+1:=z;show f.heap.size<=b;omega
    ·have F:(((f.alloc (.cells #[.string T] 9)).alloc (.cells #[.int .i64 0,.int .i64 n,.int .u32 u] 120)).alloc (.cells #[] 120)).heap.size<=b:=z;show f.heap.size<=b;omega
   ·rcases z with z|z
    ·exact z
    ·have F:i=f.heap.size+1+1:=z;omega
  clear E M J X;have aY:Hid (CZ 190 #[.slice (some ⟨f.heap.size,0,none⟩) 1 1] (f.alloc (.cells #[.string T] 9)).drew fun e w'=>e=.returned (.int .u32 u)∧(f.alloc (.cells #[.string T] 9)).drew=w'):=i7 (by have N:=i8 f (.cells #[.string T] 9);exact am.o ((f.alloc (.cells #[.string T] 9)).drew) (f.heap.size) (g9 N 0 _ rfl) (i6 N));have aZ:Hid (CZ 190 #[.slice (some ⟨f.heap.size+1,0,none⟩) 1 1] ((f.alloc (.cells #[] 120)).alloc (.cells #[.string T] 9)).drew fun e w'=>e=.returned (.int .u32 u)∧((f.alloc (.cells #[] 120)).alloc (.cells #[.string T] 9)).drew=w'):=i7 (by have N:=(p8 (w:=f) (.cells #[] 120) (.cells #[.string T] 9)).2.2;exact am.o (((f.alloc (.cells #[] 120)).alloc (.cells #[.string T] 9)).drew) (f.heap.size+1) (g9 N 0 _ rfl) (i6 N));have a0:Hid (CZ 190 #[.slice (some ⟨f.heap.size,0,none⟩) 1 1] ((f.alloc (.cells #[.string T] 9)).alloc (.cells #[] 120)).drew fun e w'=>e=.returned (.int .u32 u)∧((f.alloc (.cells #[.string T] 9)).alloc (.cells #[] 120)).drew=w'):=i7 (by have N:=(p8 (w:=f) (.cells #[.string T] 9) (.cells #[] 120)).2.1;exact am.o (((f.alloc (.cells #[.string T] 9)).alloc (.cells #[] 120)).drew) (f.heap.size) (g9 N 0 _ rfl) (i6 N))
  go_region_held3 (fun W=>W.cell? ⟨w.heap.size,5,none⟩=some (.slice ra n rc))
   (first|(exact KA.o _ TD)|(exact KA.o _ ((TA.draw)))|(exact KA.o _ (((TA.new _).draw)))|(exact KA.o _ ((((TA.new _).new _).draw)))|(with_reducible exact K5.o)|go_keep)
   (first
    |(go_fit aY.o;rintro e w4⟨rfl,rfl⟩)
    |(go_fit aZ.o;rintro e w4⟨rfl,rfl⟩)
    |(go_fit a0.o;rintro e w4⟨rfl,rfl⟩)
    |(refine o5 (by rfl) _ _ 113 113 (by rfl) ap.o underlying113 infoC120 rfl (by decide) (by rfl) (.slice (some ⟨f.heap.size+1+1,0,none⟩) 1 1) (by rfl) ar.o (by decide) (by decide) ?_;intro A r H I;have B:Hid (Sl r (fun b=>f.heap.size<=b) 120 3 A [.int .i64 0,.int .i64 n,.int .u32 u] 1∧TF f r):=i7 (an.o A r H I);obtain⟨a5,c5,rfl,-,-⟩:=B.o.1.value;have K5:=i7 (KA.o r B.o.2);clear H I)
    |(refine o5 (by rfl) _ _ 113 113 (by rfl) aq.o underlying113 infoC120 rfl (by decide) (by rfl) (.slice (some ⟨f.heap.size+1+1,0,none⟩) 1 1) (by rfl) au.o (by decide) (by decide) ?_;intro A r H I;have B:Hid (Sl r (fun b=>f.heap.size<=b) 120 3 A [.int .i64 0,.int .i64 n,.int .u32 u] 1∧TF f r):=i7 (ao.o A r H I);obtain⟨a5,c5,rfl,-,-⟩:=B.o.1.value;have K5:=i7 (KA.o r B.o.2);clear H I)
    |(refine o5 (by rfl) _ _ 113 113 (by rfl) be.o underlying113 infoC120 rfl (by decide) (by rfl) (.slice (some ⟨f.heap.size+1,0,none⟩) 1 1) (by rfl) bf.o (by decide) (by decide) ?_;intro A r H I;have B:Hid (Sl r (fun b=>f.heap.size<=b) 120 3 A [.int .i64 0,.int .i64 n,.int .u32 u] 1∧TF f r):=i7 (bd.o A r H I);obtain⟨a5,c5,rfl,-,-⟩:=B.o.1.value;have K5:=i7 (KA.o r B.o.2);clear H I))
  all_goals go_wp2
  all_goals go_meet
  all_goals exact⟨_,_,rfl,B.o.1,B.o.2⟩
 case rest=>
  obtain⟨O,Q,rfl,aO,aB⟩:=hcut;have K:Hid (Sl wc (fun b=>f.heap.size<=b) 120 3 (.slice O 1 Q) [.int .i64 0,.int .i64 n,.int .u32 u] 1∧TF f wc∧TF D wc):=i7 ⟨aO,aB,t1.o.tr aB⟩;have aV:Hid (∀W,TF wc W->CZ 199 #[.slice O 1 Q] W (RT (.tuple #[.string C,.int .i64 0]) wc)):=i7 fun W t=>by
   obtain⟨a',c',e,br⟩:=Ch.cU (l:=[(0,(n:Int),u)]) (K.o.1.turned t fun _ _ z=>z) (fun x hx=>by rw[List.mem_singleton.1 hx];have:=HX.o.2.2;exact⟨⟨by show(-9223372036854775808:Int)<=0;decide,by show(0:Int)<=9223372036854775807;decide⟩,⟨by show(-9223372036854775808:Int)<=(n:Int);omega,by show(n:Int)<=9223372036854775807;omega⟩,a8.o⟩);have e':O=a'∧Q=c':=by simpa using e
   obtain⟨rfl,rfl⟩:=e';refine(Ch.rv O Q [(0,(n:Int),u)] W br).mono fun e w'⟨x1,x2⟩=>⟨?_,t.tr x2⟩
   rw[x1,ab.o.1]
  obtain⟨DA,hA⟩:=EX ((D3 (I4 q L) graphT T g0B).1);have HA:Hid (D3 (I4 q L) graphT T g0B=(DA,0)∧R7 DA 3∧DA.Ok):=i7 (by have h1:=vJ (q:=q) (L:=L) (T:=T) (by have:=ab.o;omega);have h2:=mH (n:=1) (d:=I4 q L) ⟨by simp[I4],by simp[I4]⟩ aF.o graphT T g0B;rw[<-hA]at h2;exact⟨by rw[hA,h1],h2⟩);obtain⟨DB,hB⟩:=EX ((D3 DA chainT C chainB).1);have ak:Hid (D3 DA chainT C chainB=(DB,0)∧R7 DB 5∧DB.Ok∧DB.syncNames=(jL q L T C,0)):=i7 (by have h1:=vJ (q:=q) (L:=L) (T:=T) (by have:=ab.o;omega);have aw:=hA;rw[h1]at aw;have h3:=AE (q:=q) (L:=L) (T:=T) (C:=C) (by have:=ab.o;omega);have h2:=mH HA.o.2.1 HA.o.2.2 chainT C chainB;rw[<-hB]at h2;have ax:=hB;rw[aw,h3]at ax;refine⟨by rw[ax,aw,h3],h2.1,h2.2,?_⟩;rw[ax];exact AC q _ _ _ _);have a7:Hid (∀W,TF wc W->CZ 189 #[.int .i64 0] W (RT (.string g0B) W)):=i7 fun W t=>by have:=Ch.nz 0 ⟨by decide,by decide⟩ W (aH.o W ((K.o.2.2.tr t).mono fun _ _ z=>z.elim));rw[name0]at this;exact this
  have aW:Hid (∀W,TF wc W->CZ 200 #[pt v,.string ⟨#[103,114,97,112,104,46,116,109,112]⟩,.string T,.string g0B] W fun e w'=>e=.returned (.int .i64 0)∧I1 wc S v DA w'):=i7 fun W t=>
   (xb (tmp:=graphT) ((aT.o.turned K.o.2.2 fun _ _ z=>z).turned t fun _ _ z=>z) aF.o (n:=1) ⟨by simp[I4],by simp[I4]⟩ (by decide) (by have:=ab.o;omega) HA.o.1).mono fun e w'⟨x1,x2⟩=>⟨x1,x2.after (t.mono fun _ _ z=>z.elim)⟩
  have aX:Hid (∀W w',I1 wc S v DA W->TF W w'->CZ 200 #[pt v,.string ⟨#[99,104,97,105,110,46,116,109,112]⟩,.string C,.string ⟨#[99,104,97,105,110]⟩] w' fun e w2=>e=.returned (.int .i64 0)∧I1 wc S v DB w2):=i7 fun W w'⟨S1,a1,a2,a3,a4⟩t=>
   (xb (tmp:=chainT) (name:=chainB) (a1.turned t fun _ _ z=>z) HA.o.2.2 HA.o.2.1 (by decide) (by have:=ab.o;omega) ak.o.1).mono fun e w2⟨x1,x2⟩=>⟨x1,x2.next a2 (a4.trans t fun _ _ z=>z.elim)⟩
  have ba:Hid (∀W w',I1 wc S v DB W->TF W w'->CZ 184 #[pt v] w' fun e w2=>e=.returned (.int .i64 0)∧I1 wc S v (jL q L T C) w2):=i7 fun W w'⟨S1,a1,a2,a3,a4⟩t=>
   (kA (a1.turned t fun _ _ z=>z) ak.o.2.2.1).mono fun e w2⟨x1,x2⟩=>by rw[ak.o.2.2.2]at x1 x2;exact⟨x1,x2.next a2 (a4.trans t fun _ _ z=>z.elim)⟩
  have KY:Hid (∀W,d7 S wc W->W.cell? ⟨y,0,none⟩=some (pt v)∧W.heap[y]?=some (.cells #[pt v,.slice none 0 0,.slice none 0 0] 178)):=i7 fun W t=>by have h:=j9 (j9 HY.o.1 K.o.2.2 id) t HY.o.2.2;exact⟨g9 h 0 _ rfl,h⟩
  clear aO aB hA hB c5 bi bj bk bm bo l5 KA bh;go_wp2_with(go_fit(aV.o wc TQ);rintro e w6⟨rfl,t6⟩;have z6:=KY.o w6 (t6.mono fun _ _ z=>z.elim);have y6:=i6 z6.2;have bu:=z6.1;clear z6;replace t6:=i7 t6);have bc:=i7 (KY.o w6.drew (t6.o.draw.mono fun _ _ z=>z.elim)).1
  go_region_held3 (fun W=>W.cell? ⟨y,0,none⟩=some (pt v))
   (first|(with_reducible exact bc.o)|(with_reducible exact K7.o)|(with_reducible exact K8.o)|go_keep)
   (first
    |(go_fit(a7.o w6.drew t6.o.draw);rintro e w7⟨rfl,q7⟩;have T7:TF wc w7:=t6.o.draw.tr q7;have K7:=i7 (KY.o w7 (T7.mono fun _ _ z=>z.elim)).1)
    |(go_fit(aW.o w7 T7);rintro e w8⟨rfl,r8⟩;have q8:=KY.o w8 r8.choose_spec.2.2.2;have K8:=i7 q8.1;have R8:=i7 (And.intro r8 q8);clear r8 q8))
  have bv:=R8.o.2.1;have y8:=i6 R8.o.2.2;clear bu y6 T7
  go_upto_region 18 with(first
   |(go_fit(aX.o w8 w8 R8.o.1 TQ);rintro e w9⟨rfl,r9⟩;have q9:=KY.o w9 r9.choose_spec.2.2.2;have bw:=q9.1;have y9:=i6 q9.2;have R9:=i7 r9;clear r9 q9 bv y8)
   |(go_fit(ba.o w9 w9 R9.o TQ);rintro e P⟨rfl,rD⟩;have qD:=(KY.o P rD.choose_spec.2.2.2).2;have bx:P.cell? ⟨y,0,none⟩=some (pt v):=g9 qD 0 _ rfl;have bz:P.cell? ⟨y,1,none⟩=some (.slice none 0 0):=g9 qD 1 _ rfl;have bA:=j7 qD 1;have yD:=i6 qD;have RD:=i7 (And.intro rD qD);clear rD qD bw y9))
  obtain⟨s,af⟩:=EX (P.setCell ⟨y,1,none⟩ (.slice O 1 Q));have WE:Hid (d7 (fun b=>b=y) P s∧s.heap.size=P.heap.size∧s.heap[y]?=some (.cells #[pt v,.slice O 1 Q,.slice none 0 0] 178)):=i7 ⟨by rw[af];exact(d7.refl (fun b=>b=y) P).set (p:=⟨y,1,none⟩) rfl _,by rw[af];simp,by rw[af];have:=j8 RD.o.2 (o:=1) (.slice O 1 Q);simpa using this⟩;rw[<-af];clear af bx bz bA yD;have aI:Hid (∀W,TF s W->W.heap[y]?=some (.cells #[pt v,.slice O 1 Q,.slice none 0 0] 178)):=i7 fun W t=>j9 WE.o.2.2 t id
  have KX:Hid (∀W,TF s W->(W.cell? ⟨w.heap.size,0,none⟩=some (.int .i64 g.base)∧W.cell? ⟨w.heap.size,1,none⟩=some (.int .i64 g.h)∧W.cell? ⟨w.heap.size,2,none⟩=some (.int .i64 g.p)∧W.cell? ⟨w.heap.size,3,none⟩=some (.int .i64 g.m)∧W.cell? ⟨w.heap.size,4,none⟩=some (.int .u32 g.seed)∧W.cell? ⟨w.heap.size,5,none⟩=some (.slice ra n rc))):=i7 fun W t=>by
   have h:=KB.o W (fun b=>S b∨b=y) ((((K.o.2.2.mono fun _ _ z=>z.elim).tr (RD.o.1.choose_spec.2.2.2.mono fun _ _ z=>.inl z)).tr (WE.o.1.mono fun _ _ z=>.inr z)).tr (t.mono fun _ _ z=>z.elim)) fun b z=>z
   exact⟨g9 h 0 _ rfl,g9 h 1 _ rfl,g9 h 2 _ rfl,g9 h 3 _ rfl,g9 h 4 _ rfl,g9 h 5 _ rfl⟩
  go_cut[12]from 98 to 106 (fun lv wr=>lv=.slice O 1 Q∧∃ga gc,wr.heap[y]?=some (.cells #[pt v,.slice O 1 Q,.slice ga 1 gc] 178)∧Sl wr (fun b=>P.heap.size<=b) 123 6 (.slice ga 1 gc) [.int .i64 g.base,.int .i64 g.h,.int .i64 g.p,.int .i64 g.m,.int .u32 g.seed,.slice ra n rc] 1∧d7 (fun b=>b=y) P wr)
  case first=>
   have bC:=fun(b:Nat)(W:World)=>tq b W
   obtain⟨E,M,J⟩:=p8 (w:=s) (.cells #[] 123) (.cells #[.int .i64 g.base,.int .i64 g.h,.int .i64 g.p,.int .i64 g.m,.int .u32 g.seed,.slice ra n rc] 123);have ap:Hid (Sl (((s.alloc (.cells #[] 123)).alloc (.cells #[.int .i64 g.base,.int .i64 g.h,.int .i64 g.p,.int .i64 g.m,.int .u32 g.seed,.slice ra n rc] 123)).drew) (fun x=>x=s.heap.size) 123 6 (.slice (some ⟨s.heap.size,0,none⟩) 0 0) [] 0):=i7 (Z7 6 M);have ar:Hid (Src prog 6 114 (.slice (some ⟨s.heap.size+1,0,none⟩) 1 1) 1 [.int .i64 g.base,.int .i64 g.h,.int .i64 g.p,.int .i64 g.m,.int .u32 g.seed,.slice ra n rc] (((s.alloc (.cells #[] 123)).alloc (.cells #[.int .i64 g.base,.int .i64 g.h,.int .i64 g.p,.int .i64 g.m,.int .u32 g.seed,.slice ra n rc] 123)).drew)):=i7 (oo [.int .i64 g.base,.int .i64 g.h,.int .i64 g.p,.int .i64 g.m,.int .u32 g.seed,.slice ra n rc] rfl (by simp[Value.oneCell']) (W:=((s.alloc (.cells #[] 123)).alloc (.cells #[.int .i64 g.base,.int .i64 g.h,.int .i64 g.p,.int .i64 g.m,.int .u32 g.seed,.slice ra n rc] 123)).drew) J);have an:Hid (∀A r,Sl r (F2 (fun x=>x=s.heap.size) (((s.alloc (.cells #[] 123)).alloc (.cells #[.int .i64 g.base,.int .i64 g.h,.int .i64 g.p,.int .i64 g.m,.int .u32 g.seed,.slice ra n rc] 123)).drew)) 123 6 A ([]++[.int .i64 g.base,.int .i64 g.h,.int .i64 g.p,.int .i64 g.m,.int .u32 g.seed,.slice ra n rc]) (0+1)->d7 (fun x=>x=s.heap.size) (((s.alloc (.cells #[] 123)).alloc (.cells #[.int .i64 g.base,.int .i64 g.h,.int .i64 g.p,.int .i64 g.m,.int .u32 g.seed,.slice ra n rc] 123)).drew) r->Sl r (fun b=>s.heap.size<=b) 123 6 A [.int .i64 g.base,.int .i64 g.h,.int .i64 g.p,.int .i64 g.m,.int .u32 g.seed,.slice ra n rc] 1∧TF s r):=i7 fun A r h1 h2=>by
    have hz:=E.size;refine⟨h1.widen fun b z=>?_,E.draw.comp h2 fun i Y z=>?_⟩
    ·rcases z with z|z
     ·have F:b=s.heap.size:=z;show s.heap.size<=b;omega
     ·have F:((s.alloc (.cells #[] 123)).alloc (.cells #[.int .i64 g.base,.int .i64 g.h,.int .i64 g.p,.int .i64 g.m,.int .u32 g.seed,.slice ra n rc] 123)).heap.size<=b:=z;show s.heap.size<=b;omega
    ·rcases z with z|z
     ·exact z
     ·have F:i=s.heap.size:=z;omega
   clear E M J;obtain⟨E,M,J⟩:=p8 (w:=s) (.cells #[.int .i64 g.base,.int .i64 g.h,.int .i64 g.p,.int .i64 g.m,.int .u32 g.seed,.slice ra n rc] 123) (.cells #[] 123);have aq:Hid (Sl (((s.alloc (.cells #[.int .i64 g.base,.int .i64 g.h,.int .i64 g.p,.int .i64 g.m,.int .u32 g.seed,.slice ra n rc] 123)).alloc (.cells #[] 123)).drew) (fun x=>x=s.heap.size+1) 123 6 (.slice (some ⟨s.heap.size+1,0,none⟩) 0 0) [] 0):=i7 (Z7 6 J);have au:Hid (Src prog 6 114 (.slice (some ⟨s.heap.size,0,none⟩) 1 1) 1 [.int .i64 g.base,.int .i64 g.h,.int .i64 g.p,.int .i64 g.m,.int .u32 g.seed,.slice ra n rc] (((s.alloc (.cells #[.int .i64 g.base,.int .i64 g.h,.int .i64 g.p,.int .i64 g.m,.int .u32 g.seed,.slice ra n rc] 123)).alloc (.cells #[] 123)).drew)):=i7 (oo [.int .i64 g.base,.int .i64 g.h,.int .i64 g.p,.int .i64 g.m,.int .u32 g.seed,.slice ra n rc] rfl (by simp[Value.oneCell']) (W:=((s.alloc (.cells #[.int .i64 g.base,.int .i64 g.h,.int .i64 g.p,.int .i64 g.m,.int .u32 g.seed,.slice ra n rc] 123)).alloc (.cells #[] 123)).drew) M);have ao:Hid (∀A r,Sl r (F2 (fun x=>x=s.heap.size+1) (((s.alloc (.cells #[.int .i64 g.base,.int .i64 g.h,.int .i64 g.p,.int .i64 g.m,.int .u32 g.seed,.slice ra n rc] 123)).alloc (.cells #[] 123)).drew)) 123 6 A ([]++[.int .i64 g.base,.int .i64 g.h,.int .i64 g.p,.int .i64 g.m,.int .u32 g.seed,.slice ra n rc]) (0+1)->d7 (fun x=>x=s.heap.size+1) (((s.alloc (.cells #[.int .i64 g.base,.int .i64 g.h,.int .i64 g.p,.int .i64 g.m,.int .u32 g.seed,.slice ra n rc] 123)).alloc (.cells #[] 123)).drew) r->Sl r (fun b=>s.heap.size<=b) 123 6 A [.int .i64 g.base,.int .i64 g.h,.int .i64 g.p,.int .i64 g.m,.int .u32 g.seed,.slice ra n rc] 1∧TF s r):=i7 fun A r h1 h2=>by
    have hz:=E.size;refine⟨h1.widen fun b z=>?_,E.draw.comp h2 fun i Y z=>?_⟩
    ·rcases z with z|z
     ·have F:b=s.heap.size+1:=z;show s.heap.size<=b;omega
     ·have F:((s.alloc (.cells #[.int .i64 g.base,.int .i64 g.h,.int .i64 g.p,.int .i64 g.m,.int .u32 g.seed,.slice ra n rc] 123)).alloc (.cells #[] 123)).heap.size<=b:=z;show s.heap.size<=b;omega
    ·rcases z with z|z
     ·exact z
     ·have F:i=s.heap.size+1:=z;omega
   clear E M J;have bt:¬y=w.heap.size:=by have:=HY.o.2.1;omega
   have bE:¬w.heap.size=y:=fun z=>bt z.symm
   go_region_held3 (fun W=>W.cell? ⟨w.heap.size,0,none⟩=some (.int .i64 g.base)∧W.cell? ⟨w.heap.size,1,none⟩=some (.int .i64 g.h)∧W.cell? ⟨w.heap.size,2,none⟩=some (.int .i64 g.p)∧W.cell? ⟨w.heap.size,3,none⟩=some (.int .i64 g.m)∧W.cell? ⟨w.heap.size,4,none⟩=some (.int .u32 g.seed)∧W.cell? ⟨w.heap.size,5,none⟩=some (.slice ra n rc))
    (first|(exact KX.o _ TD)|(exact KX.o _ (TA.draw))|(exact KX.o _ ((TA.new _).draw))|(with_reducible exact K5.o)|go_keep)
    (first
     |(refine o5 (by rfl) _ _ 114 114 (by rfl) ap.o underlying114 infoC123 rfl (by decide) (by rfl) (.slice (some ⟨s.heap.size+1,0,none⟩) 1 1) (by rfl) ar.o (by decide) (by decide) ?_;intro A r H I;have B:Hid (Sl r (fun b=>s.heap.size<=b) 123 6 A [.int .i64 g.base,.int .i64 g.h,.int .i64 g.p,.int .i64 g.m,.int .u32 g.seed,.slice ra n rc] 1∧TF s r):=i7 (an.o A r H I);obtain⟨a5,c5,rfl,-,-⟩:=B.o.1.value;have K5:=i7 (KX.o r B.o.2);have V:=aI.o r B.o.2;have u2:r.cell? ⟨y,2,none⟩=some (.slice none 0 0):=g9 V 2 _ rfl;have u3:=j7 V 2;have u4:=i6 V;have Z5:=i7 V;clear H I V)
     |(refine o5 (by rfl) _ _ 114 114 (by rfl) aq.o underlying114 infoC123 rfl (by decide) (by rfl) (.slice (some ⟨s.heap.size,0,none⟩) 1 1) (by rfl) au.o (by decide) (by decide) ?_;intro A r H I;have B:Hid (Sl r (fun b=>s.heap.size<=b) 123 6 A [.int .i64 g.base,.int .i64 g.h,.int .i64 g.p,.int .i64 g.m,.int .u32 g.seed,.slice ra n rc] 1∧TF s r):=i7 (ao.o A r H I);obtain⟨a5,c5,rfl,-,-⟩:=B.o.1.value;have K5:=i7 (KX.o r B.o.2);have V:=aI.o r B.o.2;have u2:r.cell? ⟨y,2,none⟩=some (.slice none 0 0):=g9 V 2 _ rfl;have u3:=j7 V 2;have u4:=i6 V;have Z5:=i7 V;clear H I V)
     |fail)
   all_goals go_wp2
   all_goals go_meet
   all_goals
    have hs:=j8 Z5.o (o:=2) (.slice a5 1 c5);refine⟨rfl,a5,c5,by simpa using hs,?_,?_⟩
    ·have h:=B.o.1.turned (T:=fun b=>b=y) ((d7.refl (fun b=>b=y) r).set (p:=⟨y,2,none⟩) rfl (.slice a5 1 c5)) fun b z k=>by have F:s.heap.size<=b:=z;have:=WE.o.2.1;have:=i6 RD.o.2;have k':b=y:=k;omega
     exact h.widen fun b z=>by have F:s.heap.size<=b:=z;have:=WE.o.2.1;show P.heap.size<=b;omega
    ·exact(WE.o.1.tr (B.o.2.mono fun _ _ z=>z.elim)).set (p:=⟨y,2,none⟩) rfl _
  case rest=>
   obtain⟨rfl,ga,gc,yF,aN,tF⟩:=hcut;have YF:Hid (wc.heap[y]?=some (.cells #[pt v,.slice O 1 Q,.slice ga 1 gc] 178)∧Sl wc (fun b=>P.heap.size<=b) 123 6 (.slice ga 1 gc) [.int .i64 g.base,.int .i64 g.h,.int .i64 g.p,.int .i64 g.m,.int .u32 g.seed,.slice ra n rc] 1∧d7 (fun b=>b=y) P wc):=i7 ⟨yF,aN,tF⟩;have y0:wc.cell? ⟨y,0,none⟩=some (pt v):=g9 yF 0 _ rfl;have yl:=i6 yF
   have a6:Hid (CZ 166 #[pt v] wc (J2 wc (jL q L T C))):=i7 (by
    obtain⟨S1,a1,a2,a3,a4⟩:=RD.o.1;obtain⟨rl,fv,sv,av,pv,b1,b2⟩:=a1.turned tF fun b z k=>by
     have k':b=y:=k;rcases a2 b z with j|j
     ·exact HY.o.2.2 (k'▸j)
     ·have:=HY.o.2.1;have:=TV.o.2;have:=K.o.2.2.size;omega
    exact mD b1 rfl (by show n3.length<=100000;decide) (AS q L T C) (kZ q L T C))
   have bg:Hid (∀W,TF wc W->d7 (fun b=>S b∨b=y) D W):=i7 fun W t=>(((K.o.2.2.mono fun _ _ z=>z.elim).tr (RD.o.1.choose_spec.2.2.2.mono fun _ _ z=>.inl z)).tr (YF.o.2.2.mono fun _ _ z=>.inr z)).tr (t.mono fun _ _ z=>z.elim)
   have ae:Hid (∀x W,TF wc W->x.size<=1000->CZ 201 #[.string x] W (RT (.tuple #[.int .i64 (Ch.dB x).1,.bool (Ch.dB x).2]) W)):=i7 fun x W t hx=>Ch.qJ x W (aH.o W (bg.o W t)) (by omega)
   obtain⟨bl,ol,bq⟩:∃bl ol,O=some ⟨bl,ol,none⟩:=by obtain⟨b,o,c,e,-⟩:=K.o.1.opens (by omega);simp only[Value.slice.injEq]at e;exact⟨b,o,e.1⟩
   subst bq;have aE:Hid (∀W,TF wc W->W.cell? ⟨bl,ol,none⟩=some (.int .i64 0)∧bl<W.heap.size):=i7 fun W t=>by
    obtain⟨b,o,c,e,hw,-,-,ah,-,bs⟩:=K.o.1.opens (by omega);simp only[Value.slice.injEq,Option.some.injEq,Addr.mk.injEq]at e;obtain⟨⟨rfl,rfl,-⟩,-⟩:=e;have c0:=ah 0 (by omega);have hz:=K.o.2.2.size;have bG:=t1.o.size;have hV:=TV.o.2;have bF:=HY.o.2.1;have bD:f.heap.size<=bl:=hw;have c1:=m6 c0 RD.o.1.choose_spec.2.2.2 fun z=>by have:=HS.o _ z;omega
    have c2:=m6 c1 YF.o.2.2 fun z=>by have F:bl=y:=z;omega
    exact⟨m6 c2 t id,LC bs (LR RD.o.1.choose_spec.2.2.2.size (LR YF.o.2.2.size t.size))⟩
   have aS:Hid (∀W,TF wc W->W8 w S SR v y (jL q L T C) x' W):=i7 fun W t=>by rw[HX.o.1];have ai:=HX.o.2.1;have h:=YF.o.2.1;rw[ai]at h;exact BV TV.o.1 t1.o K.o.2.1 HS.o HY.o.2 aG.o.2 RD.o.1 K.o.1 aG.o.1 ab.o.2.2.2.2 YF.o.1 h YF.o.2.2 t
   clear yF aN tF;go_wp2_with(go_fit a6.o;rintro e wn⟨vn,rfl,aj,tn⟩;have TN:Hid (TF wc wn):=i7 tn;rw[kZ]at aj;obtain⟨na,nc,rfl,-,-⟩:=aj.value;have a9:Hid (Sl wn (fun b=>wc.heap.size<=b) 9 1 (.slice na 3 nc) ([chainB,g0B,logB].map Value.string) 3):=i7 aj;clear aj tn);go_loopg[16] 3 (fun g iv wr=>∃i:Nat,i+g=3∧iv=.int .i64 (i:Nat)∧TF wn wr)
   case atStart=>exact⟨0,rfl,rfl,TQ⟩
   case round=>
    obtain⟨i,aA,rfl,G⟩:=hrel;have GI:Hid (i+gk=3):=aA;have TR:Hid (TF wn wr):=G;by_cases Y:i<3
    ·obtain⟨x,hx⟩:∃x,[chainB,g0B,logB][i]?=some x:=⟨_,LB Y⟩;have ac:Hid ([chainB,g0B,logB][i]?=some x∧i<3):=i7 ⟨hx,Y⟩;obtain⟨bn,on,cn,e,-,-,-,ah,-,ai⟩:=(a9.o.turned G fun _ _ z=>z).opens (by omega);simp only[Value.slice.injEq]at e;obtain⟨rfl,-,rfl⟩:=e;have cx:wr.cell? ⟨bn,on+i,none⟩=some (.string x):=by rw[ah i (by omega)];exact kX hx
     have X:decide ((i:Int)<3)=true:=LX (by omega);have e4:decide (i<3)=true:=LX Y;have aP:x.size<=1000:=by have hm:=LI hx;simp only[List.mem_cons,List.not_mem_nil,or_false]at hm;rcases hm with rfl|rfl|rfl<;>decide
     have ae:=ae.o x wr (TN.o.tr TR.o) aP;replace ae:=i7 ae;obtain⟨k0,bp⟩:∃k0,(Ch.dB x).1=k0:=⟨_,rfl⟩;clear aA G hx ah aP;cases aa:(Ch.dB x).2 with
     |false=>
      have al:Hid (CZ 201 #[.string x] wr (RT (.tuple #[.int .i64 k0,.bool false]) wr)):=i7 (by have:=ae.o;rw[bp,aa]at this;exact this);clear aa;go_wp2_with(go_fit al.o;rintro e w3⟨rfl,q3⟩;have T3:Hid (TF wn w3):=i7 (TR.o.tr q3);clear q3);generalize ay:gk=Gk at *;clear ay;go_loopg[18,19] 1 (fun g aD kv wr=>∃k:Nat,k+g=1∧kv=.int .i64 (k:Nat)∧aD=.bool false∧TF wn wr)
      case atStart=>exact⟨0,rfl,rfl,rfl,T3.o⟩
      case round=>
       obtain⟨k,ad,rfl,rfl,G⟩:=hrel;have TI:Hid (TF wn wr):=G;have cl:=aE.o wr (TN.o.tr G);have GG:Hid (k+gk=1):=ad;clear G;rcases(show k=0∨k=1 by omega)with rfl|rfl
       ·clear ad;go_wp2;go_roundg (gk-1)
        case measure=>have:=GG.o;omega
        case rel=>exact⟨1,by have:=GG.o;omega,rfl,rfl,TI.o⟩
       ·clear ad;go_wp2;go_roundg (Gk-1)
        case measure=>have:=GI.o;have:=ac.o.2;omega
        case rel=>exact⟨i+1,by have:=GI.o;have:=ac.o.2;omega,by have:=ac.o.2;first|rfl|(simp[wrap64];done)|(simp[wrap64];omega),TI.o⟩
     |true=>
      have al:Hid (CZ 201 #[.string x] wr (RT (.tuple #[.int .i64 0,.bool true]) wr)):=i7 (by have:=ae.o;rw[aa,nums_3 x (List.mem_of_getElem? ac.o.1) aa]at this;exact this);clear aa;go_wp2_with(go_fit al.o;rintro e w3⟨rfl,q3⟩;have T3:Hid (TF wn w3):=i7 (TR.o.tr q3);clear q3);generalize ay:gk=Gk at *;clear ay;go_loopg[18,19] 1 (fun g aD kv wr=>∃k:Nat,k+g=1∧kv=.int .i64 (k:Nat)∧aD=.bool (decide (k=0))∧TF wn wr)
      case atStart=>exact⟨0,rfl,rfl,rfl,T3.o⟩
      case round=>
       obtain⟨k,ad,rfl,rfl,G⟩:=hrel;have TI:Hid (TF wn wr):=G;have cl:=aE.o wr (TN.o.tr G);have GG:Hid (k+gk=1):=ad;clear G;rcases(show k=0∨k=1 by omega)with rfl|rfl
       ·clear ad;go_wp2;go_roundg (gk-1)
        case measure=>have:=GG.o;omega
        case rel=>exact⟨1,by have:=GG.o;omega,rfl,rfl,TI.o⟩
       ·clear ad;go_wp2;go_roundg (Gk-1)
        case measure=>have:=GI.o;have:=ac.o.2;omega
        case rel=>exact⟨i+1,by have:=GI.o;have:=ac.o.2;omega,by have:=ac.o.2;first|rfl|(simp[wrap64];done)|(simp[wrap64];omega),TI.o⟩
    ·have X:decide ((i:Int)<3)=false:=LD (by omega);have e4:decide (i<3)=false:=LD Y;clear aA G Y;go_wp2;rw[HZ.o];exact⟨rfl,aS.o _ (TN.o.tr TR.o)⟩
end Go.Proofs.YtofcogekgcgjhaaGreatDoor
