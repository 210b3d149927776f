/- Packed. -/
import Derived.Test.YtofcogekgcgjhaaGreatDoorZzaq
import Derived.Test.YtofcogekgcgjhaaGreatDoorZzau
import Derived.Test.YtofcogekgcgjhaaGreatDoorZzas
set_option maxRecDepth 100000
set_option maxHeartbeats 8000000
namespace Go.Proofs.YtofcogekgcgjhaaGreatDoor
open Go.RowKit Go.Mine Go.Mine.Ac Go.Proofs.Tryz
structure Ix where
 links:List Ch.Ln
 graphs:List Gr
def Ix.len(x:Ix):Int:=Ch.totLn x.links
def noIx:Ix:=⟨[],[]⟩
structure G0 (x:Ix):Prop where
 many:x.links.length<=8
 both:x.graphs.length=x.links.length
 link:∀l∈x.links,0<=l.1∧l.1<=1073741824∧1<=l.2.1∧l.2.1<=65536∧l.2.2<4294967296
 graph:∀(i:Nat)(g:Gr),x.graphs[i]?=some g->Y2 g∧g.base=Ch.totLn (x.links.take i)∧∃l,x.links[i]?=some l∧l.2.1=g.rows.length
def L7(w:World)(rl:Nat->Nat)(d:Value)(l:List Gr):Prop:=∃c,Sl w (fun b=>rl b=3) 123 6 d c l.length∧∀(i:Nat)(g:Gr),l[i]?=some g->∃a cap,c[i*6]?=some (.int .i64 g.base)∧c[i*6+1]?=some (.int .i64 g.h)∧c[i*6+2]?=some (.int .i64 g.p)∧c[i*6+3]?=some (.int .i64 g.m)∧c[i*6+4]?=some (.int .u32 g.seed)∧c[i*6+5]?=some (.slice a g.rows.length cap)∧iF g∧N0 w (fun b=>rl b=4) a cap g.rows
structure ed (w:World) (rl:Nat->Nat) (p:Nat) (dv lv gv:Value) (x:Ix):Prop where
 r1:rl p=1
 blk:X8 w p #[dv,lv,gv] 116
 links:Sl w (fun b=>rl b=2) 120 3 lv (Ch.lcells x.links) x.links.length
 graphs:L7 w rl gv x.graphs
 bnd:∀b,rl b≠0->b<w.heap.size
theorem L7.turned{w w':World}{T:Nat->Prop}{rl:Nat->Nat}{c:Value}{l:List Gr}(h:L7 w rl c l)(e:d7 T w w')(d:∀b,rl b≠0->¬T b):L7 w' rl c l:=by obtain⟨r,h1,h2⟩:=h;refine⟨r,h1.turned e fun b s=>d b (by omega),fun i g t=>?_⟩;obtain⟨a,cap,f,j,k,m,n,o,p,q⟩:=h2 i g t;exact⟨a,cap,f,j,k,m,n,o,p,q.turned e fun b s=>d b (by omega)⟩
theorem ed.turned{w w':World}{U:Nat->Prop}{rl:Nat->Nat}{p:Nat}{d g e:Value}{x:Ix}(h:ed w rl p d g e x)(a:d7 U w w')(c:∀b,rl b≠0->¬U b):ed w' rl p d g e x:=⟨h.r1,(a.block _ (i6 h.blk) (c _ (by rw[h.r1];decide))).trans h.blk,h.links.turned a fun b f=>c b (by omega),h.graphs.turned a c,fun b f=>LC (h.bnd b f) a.size⟩
theorem jx.of{x:Ix}(h:G0 x):Ch.jx x.links:=fun l b=>by obtain⟨h1,h2,h3,h4,a⟩:=h.link l b;exact⟨⟨by omega,by omega⟩,⟨by omega,by omega⟩,a⟩
theorem Q9{x:Ix}(h:G0 x)(j:Nat):0<=Ch.totLn (x.links.take j)∧Ch.totLn (x.links.take j)<=65536*8:=by
 have:=Ch.jq (x.links.take j) fun l a=>by obtain⟨h1,h2,h3,h4,b⟩:=h.link l (LY a);exact⟨h3,h4⟩
 have h2:(x.links.take j).length<=8:=by rw[List.length_take];have:=h.many;omega
 omega
theorem eC{w:World}{rl:Nat->Nat}{p:Nat}{d i f:Value}{x:Ix}(h:ed w rl p d i f x)(b:G0 x):CZ 15 #[pt p] w (RT (.int .i64 x.len) w):=by obtain⟨a,cap,rfl,c⟩:=Ch.cU h.links (jx.of b);have g:=Ch.nt a cap x.links w c (fun j=>by have:=Q9 b j;exact⟨by omega,by omega⟩) (by have:=b.many;omega);have k:w.cell? ⟨p,1,none⟩=some (.slice a x.links.length cap):=g9 h.blk 1 _ rfl;have l:=i6 h.blk;unfold Ix.len;generalize Ch.totLn x.links=T at *;generalize x.links.length=L at *;clear h b c;go_enter func15,ntmps15;go_wp2_with(go_fit g;rintro e w'⟨rfl,q⟩;replace q:=i7 q);go_ret;exact⟨rfl,q.o⟩
theorem ks(p:Nat)(w:World):(method 518 34 (pt p) "Commit").run prog w=.ok (192,pt p) w:=by kernel_rfl
theorem uE(p:Nat)(w:World):(method 518 34 (pt p) "Tree").run prog w=.ok (104,pt p) w:=by kernel_rfl
theorem cW(p:Nat)(w:World):(method 518 34 (pt p) "Commits").run prog w=.ok (30,pt p) w:=by kernel_rfl
def o7(s:St)(n:Int):List Ent:=(dL s (A8 s n).1.tree).1
def iT(w:World)(s:St)(n:Int)(e:Ending)(w':World):Prop:=∃v,e=.returned v∧Sl w' (fun b=>w.heap.size<=b) 96 2 v (o6 (o7 s n)) (o7 s n).length∧TF w w'
theorem ph{w:World}{rs:Nat->Nat}{p:Nat}{H J G:Value}{s:St}(h:F4 140 w rs p H J G s)(n:Int)(r:s.commits.length<=1000000)(u:∀c∈s.commits,c.par.length<=1000000)(A:s.trees.length<=1000000)(y:∀t∈s.trees,t.length<=1000000):
  CZ 141 #[.iface 34 (pt p),.int .i64 n] w (iT w s n):=by
 obtain⟨E,i⟩:=EX (iT w s n);have D:Hid (E=iT w s n):=i;rw[<-i];have P:=ks p;have Q:=uE p;have B:=kg h n r u;obtain⟨g,j⟩:=EX ((A8 s n).1.tree);have C:Hid (CZ 192 #[pt p,.int .i64 n] w fun e w'=>∃v k,e=.returned (.tuple #[.agg #[v,.int .i64 g],.int .i64 k])∧(∃a c f,v=.slice a c f)∧TF w w'):=B.mono fun e w'⟨v,a,b,t⟩=>by obtain⟨F,f,I,-,-⟩:=b.value;exact⟨v,_,by rw[a,j],⟨F,_,f,I⟩,t⟩
 have m:Hid (∀W,TF w W->CZ 104 #[pt p,.int .i64 g] W fun e w'=>∃v k,e=.returned (.tuple #[v,.int .i64 k])∧Sl w' (fun b=>w.heap.size<=b) 96 2 v (o6 (o7 s n)) (o7 s n).length∧TF w w'):=fun W q=>(xR (h.turned q fun _ _ z=>z) g A y).mono fun e w'⟨v,a,b,t⟩=>by refine⟨v,_,a,?_,q.tr t⟩;unfold o7;rw[<-j];exact b.widen fun x hx=>LR q.size hx
 clear i B h j r u A y;go_enter func141,ntmps141;go_wp2_with(first|(go_fit C.o;rintro e R⟨v,k,rfl,⟨K,L,M,rfl⟩,q⟩;replace q:=i7 q)|(go_at_call 104;(first|(with_reducible refine(m.o _ q.o).mono ?_)|(with_reducible refine(m.o _ (q.o.new _)).mono ?_));rintro e w2⟨v,k2,rfl,d,l⟩;obtain⟨N,O,rfl,-,-⟩:=d.value;replace d:=i7 d;replace l:=i7 l));rw[D.o];exact⟨_,rfl,d.o,l.o⟩
def H9(x:Ix)(s:St)(g:I2):Nat:=if¬n0 g∨(s.commits.length:Int)<x.len then 1 else 0
theorem il{w:World}{G rs:Nat->Nat}{p q:Nat}{B F E C H A:Value}{x:Ix}{s:St}(hx:ed w G p B F E x)(u:G0 x)(v:F4 140 w rs q C H A s)(g:I2):
  CZ 61 #[pt p,.iface 34 (pt q),J3 g] w (RT (.int .i64 (H9 x s g:Nat)) w):=by
 have I:=cW q;have k:Hid (∀W,TF w W->CZ 131 #[J3 g] W (RT (.int .i64 (if n0 g then 0 else 1)) w)):=fun W z=>(ij g W).mono fun e w'⟨a,b⟩=>⟨a,z.tr b⟩
 have t:Hid (∀W,TF w W->CZ 15 #[pt p] W (RT (.int .i64 x.len) w)):=fun W z=>(eC (hx.turned z fun _ _ y=>y) u).mono fun e w'⟨a,b⟩=>⟨a,z.tr b⟩
 have n:Hid (∀W,TF w W->CZ 30 #[pt q] W (RT (.int .i64 s.commits.length) w)):=fun W z=>(O4 (v.turned z fun _ _ y=>y)).mono fun e w'⟨a,b⟩=>⟨a,b▸z⟩
 have i:Hid (H9 x s g=if¬n0 g∨(s.commits.length:Int)<x.len then 1 else 0):=rfl;generalize H9 x s g=r at *;generalize s.commits.length=c at *;generalize x.len=L at *;have d:Hid (TF w w):=TQ;clear hx u v;by_cases h:n0 g
 ·rw[if_pos h]at k;by_cases m:(c:Int)<L
  ·have l:Hid (r=1):=i7 (by rw[i.o,if_pos (.inr m)]);have D:decide ((c:Int)<L)=true:=by simp[m]
   clear h m i;go_enter func61,ntmps61;go_wp2_with(first|(go_fit(k.o _ (d.o.new _));rintro e j⟨rfl,f⟩;clear d;have d:=i7 f;clear f)|(go_fit(n.o _ d.o);rintro e j⟨rfl,f⟩;clear d;have d:=i7 f;clear f)|(go_fit(t.o _ d.o);rintro e j⟨rfl,f⟩;clear d;have d:=i7 f;clear f));go_ret;exact⟨by rw[l.o];rfl,d.o⟩
  ·have l:Hid (r=0):=i7 (by rw[i.o,if_neg (fun z=>z.elim (fun z=>z h) m)]);have D:decide ((c:Int)<L)=false:=by simp;omega
   clear h m i;go_enter func61,ntmps61;go_wp2_with(first|(go_fit(k.o _ (d.o.new _));rintro e j⟨rfl,f⟩;clear d;have d:=i7 f;clear f)|(go_fit(n.o _ d.o);rintro e j⟨rfl,f⟩;clear d;have d:=i7 f;clear f)|(go_fit(t.o _ d.o);rintro e j⟨rfl,f⟩;clear d;have d:=i7 f;clear f));go_ret;exact⟨by rw[l.o];rfl,d.o⟩
 ·rw[if_neg h]at k;have l:Hid (r=1):=i7 (by rw[i.o,if_pos (.inl h)]);clear h i;go_enter func61,ntmps61;go_wp2_with(go_fit(k.o _ (d.o.new _));rintro e j⟨rfl,f⟩;clear d;have d:=i7 f;clear f);go_ret;exact⟨by rw[l.o];rfl,d.o⟩
def usualS:I2:=⟨3,10,9,0⟩
theorem rM(w:World):CZ 23 #[] w (RT (J3 usualS) w):=by go_enter func23,ntmps23;go_wp2;have a:=i8 w (.cells #[.int .i64 3,.int .i64 10,.int .i64 9,.int .u32 0] 24);have b:(w.alloc (.cells #[.int .i64 3,.int .i64 10,.int .i64 9,.int .u32 0] 24)).cell? ⟨w.heap.size,0,none⟩=some (.int .i64 3):=g9 a 0 _ rfl;have c:(w.alloc (.cells #[.int .i64 3,.int .i64 10,.int .i64 9,.int .u32 0] 24)).cell? ⟨w.heap.size,1,none⟩=some (.int .i64 10):=g9 a 1 _ rfl;have d:(w.alloc (.cells #[.int .i64 3,.int .i64 10,.int .i64 9,.int .u32 0] 24)).cell? ⟨w.heap.size,2,none⟩=some (.int .i64 9):=g9 a 2 _ rfl;have e:(w.alloc (.cells #[.int .i64 3,.int .i64 10,.int .i64 9,.int .u32 0] 24)).cell? ⟨w.heap.size,3,none⟩=some (.int .u32 0):=g9 a 3 _ rfl;refine bodyPost_ret (v:=J3 usualS) (by simp[results,Tryz.results23,go_sem,b,c,d,e,usualS,J3]) rfl ?_;exact⟨rfl,TA⟩
abbrev zeroRow:Value:=.agg #[.slice none 0 0,.int .i64 0,.int .i64 0,.int .i64 0,.string ⟨#[]⟩]
abbrev zeroStg:Value:=.agg #[.int .i64 0,.int .i64 0,.int .i64 0,.int .u32 0]
def qq(s:I2)(l:List ByteArray):Value:=if n0 s then .tuple #[dZ (H3 s l),.int .i64 0]else .tuple #[dZ ⟨0,⟨#[]⟩⟩,.int .i64 1]
def P7(w:World)(s:I2)(l:List ByteArray)(e:Ending)(w':World):Prop:=e=.returned (qq s l)∧TF w w'
theorem info5z:(prog.info? 5).map (fun i=>(i.zero,i.size,i.bytes))=some (some (.int .u8 0),1,1):=by kernel_rfl
theorem lZ(n:Nat)(e:n<=281474976710656)(w:World):(Instr.makeSlice 83 (.int .i64 n) (.int .i64 n)).run prog w=.ok (.slice (some ⟨w.heap.size,0,none⟩) n n) (w.alloc (.cells (madeCells #[.int .u8 0] (n*1)) 5)):=by obtain⟨i,a,b,c,d⟩:=info_parts info5z;have:=run_make (P:=prog) w 83 5 i _ underlying83 a b .i64 .i64 n n (by omega) (by omega) (by rw[d];omega) (by omega);rw[c]at this;simp only[Value.cells,Int.toNat_natCast]at this;exact this
theorem rN(n:Nat)(c:n<=maxLen)(w:World)(S:Nat->Prop)(b:S w.heap.size):Sl (w.alloc (.cells (madeCells #[.int .u8 0] (n*1)) 5)) S 5 1 (.slice (some ⟨w.heap.size,0,none⟩) n n) (o9 (F1 n fun _=>false)) n:=by
 refine⟨by rw[mO,dp];omega,.inr ⟨_,0,n,_,rfl,b,i8 _ _,LS _,c,by simp[madeCells],?_⟩⟩;rw[rJ];apply List.ext_getElem?;intro j;simp only[o9,List.getElem?_map];by_cases a:j<n
 ·simp[madeCells,a,Nat.mod_one]
 ·simp[madeCells,a]
theorem _root_.Go.Mine.d7.fresh{a w:World}(h:TF a w){b o:Nat}(c:a.heap.size<=b)(v:Value):TF a (w.setCell ⟨b,o,none⟩ v):=h.comp (d7.setCell (S:=(· =b)) (p:=⟨b,o,none⟩) rfl v) fun i d q=>q.elim id fun q=>by omega
theorem ma(n c:Nat)(f:n<=512)(g:c<=64):∃a b N:Nat,(a=n*c∧a<=32768∧b=(a+7) / 8∧N=max 1 b∧1<=N∧N<=4096)∧wrap64 ((n:Int)*(c:Int))=(a:Int)∧wrap64 ((a:Int)+7)=(a:Int)+7∧wrap64 (((a:Int)+7).tdiv 8)=(b:Int)∧∀W,(Builtin.max_ #[3,3] 3 #[.int .i64 1,.int .i64 (b:Int)]).run prog W=.ok (.int .i64 (N:Int)) W:=by
 have e:n*c<=32768:=Nat.mul_le_mul f g;generalize h:n*c=a at *;have d:(n:Int)*(c:Int)=(a:Int):=by rw[<-h];push_cast;rfl
 refine⟨a,(a+7) / 8,max 1 ((a+7) / 8),⟨rfl,e,rfl,rfl,by omega,by omega⟩,?_,?_,?_,fun W=>?_⟩
 ·rw[d];simp only[wrap64];omega
 ·simp only[wrap64];omega
 ·have:((a:Int)+7).tdiv 8=(((a+7) / 8:Nat):Int):=by rw[Int.tdiv_eq_ediv_of_nonneg (by omega)];omega
  rw[this];simp only[wrap64];omega
 ·generalize(a+7) / 8=b at *;by_cases h1:(1:Int)<(b:Int)
  ·have:max 1 b=b:=by omega
   simp[Builtin.max_,Builtin.max2,h1,this]
  ·have:max 1 b=1:=by omega
   simp[Builtin.max_,Builtin.max2,h1,this]
def valB:Value->ByteArray| .string p=>p|_=>⟨#[]⟩
def JX(e:MapEntry):ByteArray:=valB e.key
theorem xY{e:MapEntry}{p:ByteArray}(h:e.key=.string p):JX e=p:=by unfold JX;rw[h];rfl
theorem xU{a b:List MapEntry}{l:List ByteArray}(h1:a.Perm b)(h2:(b.map (·.key)).Perm (l.map Value.string)):(a.map JX).Perm l:=by
 have c:a.map JX=(a.map (·.key)).map valB:=by rw[List.map_map];rfl
 have d:l=(l.map Value.string).map valB:=by rw[List.map_map];exact(List.map_id l).symm
 rw[c,d];exact((h1.map _).trans h2).map valB
theorem By(b t:Nat)(a:b<256)(c:t<8):bits .or .u8 (b:Int) ((2:Int)^t% 256)=((b |||2^t:Nat):Int)∧b |||2^t<256:=by
 have h1:2^t<256:=by have:2^t<2^8:=Nat.pow_lt_pow_right (by omega) c;exact this
 have h2:(2:Int)^t% 256=((2^t:Nat):Int):=by
  have:(2:Int)^t=((2^t:Nat):Int):=by push_cast;rfl
  rw[this];generalize 2^t=q at *;omega
 rw[h2];exact⟨u8_or_nat b (2^t) a h1,Nat.or_lt_two_pow (n:=8) a h1⟩
theorem wt{w:World}{a N x y t b:Nat}{P:Nat->Bool}(h:Sl w (· =a) 5 1 (.slice (some ⟨a,0,none⟩) N N) (o9 (F1 N P)) N)(hx:x<8*N)(l:y=x / 8)(k:t=x% 8)(c:b=X2 P y)(m:Int)(j:m=(2:Int)^t% 256):
  Sl (w.setCell ⟨a,y,none⟩ (.int .u8 (bits .or .u8 (b:Int) m))).drew (· =a) 5 1 (.slice (some ⟨a,0,none⟩) N N) (o9 (F1 N fun i=>P i ||i==x)) N:=by
 have g:b<256:=by rw[c];exact lD _ _
 obtain⟨d,e⟩:=By b t g (by omega);rw[j];have:=h.set y (by omega) (.int .u8 (bits .or .u8 (b:Int) ((2:Int)^t% 256)));rw[Nat.zero_add]at this;rw[<-uz P hx,<-l,<-k,<-c];have f:o9 ((F1 N P).set y (UInt8.ofNat (b |||2^t)))=(o9 (F1 N P)).set y (.int .u8 (bits .or .u8 (b:Int) ((2:Int)^t% 256))):=by unfold o9;rw[List.map_set,d,UInt8.toNat_ofNat',Nat.mod_eq_of_lt e]
 rw[f];exact this.1.drew
def Bz(s:I2)(N:Nat)(d:Array MapEntry)(c f r a:Nat)(i:World)(g:Nat)(wr:World):Prop:=∃(seen:Array Nat)(h:List MapEntry)(e:Nat),(leftOf d seen).size=g∧O8 d seen h∧wr.heap[r]?=some (.mapIter (some f) c seen e)∧c<=e∧wr.heap[f]?=some (.map d c)∧Sl wr (· =a) 5 1 (.slice (some ⟨a,0,none⟩) N N) (o9 (F1 N (dF s (8*N) (h.map JX)))) N∧d7 (fun b=>b=r∨b=a) i wr
theorem jB(X:Int)(y:Nat)(h:X.tdiv 8=(y:Int))(h1:wrap64 (y:Int)=(y:Int))(h2:IntKind.i64.wrap (y:Int)=(y:Int)):wrap64 (X.tdiv 8)=(y:Int)∧IntKind.i64.wrap (X.tdiv 8)=(y:Int):=by rw[h];exact⟨h1,h2⟩
theorem dq(n:Nat)(h:n<=1073741824):wrap64 (n:Int)=(n:Int)∧IntKind.i64.wrap (n:Int)=(n:Int):=⟨by simp only[wrap64];omega,by rw[IntKind.wrap_i64];omega⟩
theorem DU(x y t:Nat)(b:y=x / 8)(a:t=x% 8):∃X:Int,X=(x:Int)∧X.tdiv 8=(y:Int)∧X.tmod 8=(t:Int):=by
 refine⟨(x:Int),rfl,?_,?_⟩
 ·rw[Int.tdiv_eq_ediv_of_nonneg (by omega)];omega
 ·rw[Int.tmod_eq_emod_of_nonneg (by omega)];omega
def wu(s:I2)(N:Nat)(c:List ByteArray)(pl:List Nat)(a:Nat)(d:World)(g:Nat)(b:Value)(wr:World):Prop:=∃k:Nat,k+g=pl.length∧b=.int .i64 k∧Sl wr (· =a) 5 1 (.slice (some ⟨a,0,none⟩) N N) (o9 (F1 N (iR s (8*N) c (pl.take k)))) N∧d7 (· =a) d wr
def CD(X:World)(a:Nat)(l:List ByteArray)(g:Nat)(b:Value)(wr:World):Prop:=∃j:Nat,j+g=l.length∧b=.int .i64 j∧z8 KStr wr a (jz (l.take j)) (once (l.take j)).length∧D7 wr a∧d7 (· =a) X wr
theorem fcellsR_set:∀(l:List Fl)(k:Nat)(y:Fl),k<l.length->A7 (l.set k y)=((A7 l).set (k*2) (.string y.bytes)).set (k*2+1) (.int .i64 y.safe)
 | [],k,y,h=>by simp at h
 |x::l,0,y,h=>by simp[A7]
 |x::l,k+1,y,h=>by
  have:=fcellsR_set l k y (by simpa using h);have a:(k+1)*2=k*2+1+1:=by omega
  rw[a];simp only[List.set_cons_succ];show A7 (x::l.set k y)=_;have b:A7 (x::l.set k y)=[.string x.bytes,.int .i64 x.safe]++A7 (l.set k y):=rfl;have c:A7 (x::l)=.string x.bytes:: .int .i64 x.safe::A7 l:=rfl;rw[b,c,this];simp
theorem im{l:List Value}{j:Nat}{a:Value}(h:l[j]?=some a):l.set j a=l:=by
 obtain⟨b,e⟩:=LA.1 h;apply List.ext_getElem?;intro i;rw[List.getElem?_set];split
 ·rename_i q;subst q
  first|(rw[if_pos b,h])|exact h.symm
 ·rfl
section
variable {w:World} {rl:Nat->Nat} {r:Nat} {fv sv av pv:Value} {D:Dk}
theorem B6.rows{w':World}{D':Dk}(h:B6 w rl r fv sv av pv D)(c:d7 (fun b=>rl b=2) w w')(p:D'.files.length=D.files.length)(o:D'.seen=D.seen)(e:D'.safe=D.safe)(m:D'.pend=D.pend)(n:D'.quota=D.quota)(f:D'.falls=D.falls)(l:D'.off=D.off)
  (g:Sl w' (fun b=>rl b=2) 244 2 fv (A7 D'.files) D'.files.length):B6 w' rl r fv sv av pv D'∧d7 (fun b=>rl b≠0) w w':=by
 have d:∀b k,rl b=k->k≠2->¬rl b=2:=fun b k a j q=>j (a.symm.trans q)
 refine⟨⟨h.r1,?_,g,by rw[o];exact h.seen.turned c fun b a=>d b _ a (by decide),by rw[e];exact h.safe.turned c fun b a=>d b _ a (by decide),by rw[m];exact h.pend.turned c fun b a=>d b _ a (by decide),fun b a=>LC (h.bnd b a) c.size⟩,c.mono fun i _ q=>by omega⟩;rw[n,f,l];exact(c.block _ (i6 h.blk) (by rw[h.r1];decide)).trans h.blk
theorem B6.setF1{g off N cap k s:Nat}{x:Fl}(h:B6 w rl r (.slice (some ⟨g,off,none⟩) N cap) sv av pv D)(a:N=D.files.length)(hx:D.files[k]?=some x):
  B6 (w.setCell ⟨g,off+(k*2+1),none⟩ (.int .i64 s)) rl r (.slice (some ⟨g,off,none⟩) N cap) sv av pv (D.setF k ⟨x.bytes,s⟩)∧d7 (fun b=>rl b≠0) w (w.setCell ⟨g,off+(k*2+1),none⟩ (.int .i64 s)):=by
 have d:=(LA.1 hx).1;have c:=h.files;rw[<-a]at c;obtain⟨f,i,m⟩:=c.set (k*2+1) (by omega) (.int .i64 s);refine h.rows (D':=D.setF k ⟨x.bytes,s⟩) i (by simp[Dk.setF]) rfl rfl rfl rfl rfl rfl ?_;have e:A7 (D.setF k ⟨x.bytes,s⟩).files=(A7 D.files).set (k*2+1) (.int .i64 s):=by show A7 (D.files.set k ⟨x.bytes,s⟩)=_;rw[fcellsR_set _ _ _ d,im (l:=A7 D.files) (j:=k*2) (by rw[Nat.mul_comm];exact(fcellsR_get hx).1)]
 rw[e];have:(D.setF k ⟨x.bytes,s⟩).files.length=N:=by simp[Dk.setF,a]
 rw[this];exact f
theorem B6.setF0{g off N cap k:Nat}{x:Fl}{b:ByteArray}(h:B6 w rl r (.slice (some ⟨g,off,none⟩) N cap) sv av pv D)(a:N=D.files.length)(hx:D.files[k]?=some x):
  B6 (w.setCell ⟨g,off+k*2,none⟩ (.string b)) rl r (.slice (some ⟨g,off,none⟩) N cap) sv av pv (D.setF k ⟨b,x.safe⟩)∧d7 (fun b=>rl b≠0) w (w.setCell ⟨g,off+k*2,none⟩ (.string b)):=by
 have d:=(LA.1 hx).1;have c:=h.files;rw[<-a]at c;obtain⟨f,i,j⟩:=c.set (k*2) (by omega) (.string b);refine h.rows (D':=D.setF k ⟨b,x.safe⟩) i (by simp[Dk.setF]) rfl rfl rfl rfl rfl rfl ?_;have e:A7 (D.setF k ⟨b,x.safe⟩).files=(A7 D.files).set (k*2) (.string b):=by show A7 (D.files.set k ⟨b,x.safe⟩)=_;rw[fcellsR_set _ _ _ d,im];rw[List.getElem?_set_ne (by omega),Nat.mul_comm];exact(fcellsR_get hx).2
 rw[e];have:(D.setF k ⟨b,x.safe⟩).files.length=N:=by simp[Dk.setF,a]
 rw[this];exact f
theorem B6.fcell{g off N cap k:Nat}{x:Fl}(h:B6 w rl r (.slice (some ⟨g,off,none⟩) N cap) sv av pv D)(f:N=D.files.length)(hx:D.files[k]?=some x):
  w.cell? ⟨r,1,none⟩=some (.slice (some ⟨g,off,none⟩) N cap)∧w.cell? ⟨g,off+k*2,none⟩=some (.string x.bytes)∧w.cell? ⟨g,off+(k*2+1),none⟩=some (.int .i64 x.safe)∧(∀j,w.frozen? ⟨g,j,none⟩=false)∧g<w.heap.size∧r<w.heap.size∧k<N∧g≠r:=by
 have p:=(LA.1 hx).1;have b:=h.files;rw[<-f]at b;obtain⟨o,s,n,c,i,-,-,a,l,m⟩:=b.opens (by omega);simp only[Value.slice.injEq,Option.some.injEq,Addr.mk.injEq]at c;obtain⟨⟨rfl,rfl,-⟩,-,-⟩:=c;obtain⟨d,e⟩:=fcellsR_get hx;refine⟨g9 h.blk 1 _ rfl,by rw[a _ (by omega),Nat.mul_comm];exact d,by rw[a _ (by omega),Nat.mul_comm];exact e,l,m,i6 h.blk,by omega,fun q=>by have:=h.r1;rw[<-q,i]at this;omega⟩
theorem B6.fslice{k:Nat}{x:Fl}(h:B6 w rl r fv sv av pv D)(hx:D.files[k]?=some x):∃g off N cap,fv=.slice (some ⟨g,off,none⟩) N cap∧N=D.files.length:=by have b:=(LA.1 hx).1;obtain⟨g,off,cap,a,-⟩:=h.files.opens (by omega);exact⟨g,off,_,cap,a,rfl⟩
end
theorem xX{w:World}{rl:Nat->Nat}{r:Nat}{fv sv av pv:Value}{D:Dk}(h:B6 w rl r fv sv av pv D)(i:D.Ok)(name:ByteArray):
  CZ 187 #[pt r,.string name] w fun e w'=>e=.returned (.int .i64 ((D.sync name).2:Nat))∧B7 w rl r (D.sync name).1 w':=by
 have c:=gD h (ki i) name;cases a:D.file name with
 |error k=>
  have B:Hid (k≠0):=U7 a;have l:Hid (D.sync name=(D,k)):=i7 (by simp[Dk.sync,a]);have J:((k:Int) !=0)=true:=by have:=B.o;simp;omega
  have C:Hid (∀w',TF w w'->B7 w rl r D w'):=i7 fun w' m=>(h.turned m fun _ _ q=>q).post (m.mono fun _ _ q=>q.elim)
  rw[a]at c;replace c:CZ 167 #[pt r,.string name] w (RT (.tuple #[.int .i64 0,.int .i64 k]) w):=c;rw[l.o];clear h a i;go_enter func187,ntmps187;go_wp2_with(go_fit c;rintro e w2⟨rfl,q⟩;replace q:=i7 q);go_ret;exact⟨rfl,C.o _ q.o⟩
 |ok k=>
  obtain⟨x,h1,h2,h3⟩:=i.at_lt (Dk.file_live a);have l:Hid (D.sync name=D.then fun d=>d.setF k ⟨(d.at k).bytes,(d.at k).bytes.size⟩):=i7 (by simp[Dk.sync,a]);obtain⟨g,off,N,cap,E,t⟩:=h.fslice h1;subst E;rw[a]at c;replace c:CZ 167 #[pt r,.string name] w (RT (.tuple #[.int .i64 k,.int .i64 0]) w):=c;obtain⟨k1,k2⟩:=eB h i;by_cases f:D.falls=1
  ·have n:Hid _:=i7 (k1 f);rw[l.o,Dk.then_dies f];clear h a i k1 k2 f h1 h2 h3;go_enter func187,ntmps187;go_wp2_with(first|(go_fit c;rintro e w2⟨rfl,q⟩;have p:=n.o _ q;clear q)|(go_fit p;rintro e H⟨rfl,z⟩;replace z:=i7 z));go_ret;exact⟨rfl,z.o⟩
  ·have n:Hid _:=i7 (k2 f);rw[l.o,Dk.then_goes f];have A:Hid (∀W,B6 W rl r (.slice (some ⟨g,off,none⟩) N cap) sv av pv {D with falls:=D.falls-1}->d7 (fun b=>rl b≠0) w W->(W.cell? ⟨r,1,none⟩=some (.slice (some ⟨g,off,none⟩) N cap)∧W.cell? ⟨g,off+k*2,none⟩=some (.string x.bytes)∧W.cell? ⟨g,off+(k*2+1),none⟩=some (.int .i64 x.safe)∧(∀j,W.frozen? ⟨g,j,none⟩=false)∧g<W.heap.size∧r<W.heap.size∧k<N∧g≠r)∧B7 w rl r (Dk.setF {D with falls:=D.falls-1} k ⟨(Dk.at {D with falls:=D.falls-1} k).bytes,(Dk.at {D with falls:=D.falls-1} k).bytes.size⟩) (W.setCell ⟨g,off+(k*2+1),none⟩ (.int .i64 x.bytes.size))):=i7 fun W u m=>by refine⟨u.fcell t h1,?_⟩;have hx:Dk.at {D with falls:=D.falls-1} k=x:=h2;rw[hx];obtain⟨F,G⟩:=u.setF1 (s:=x.bytes.size) t h1;exact F.post (m.tr G)
   clear h a i k1 k2 f h1 h2 h3;go_enter func187,ntmps187;go_wp2_with(first|(go_fit c;rintro e w2⟨rfl,q⟩;have p:=n.o _ q;clear q)|(go_fit p;rintro e H⟨rfl,v,y⟩;obtain⟨⟨K,L,I,M,O,P,Q,R⟩,z⟩:=A.o _ v y;replace z:=i7 z;rw[<-Nat.add_assoc]at I z;clear v y));go_region
   all_goals go_wp2
   all_goals go_ret
   all_goals first|exact⟨rfl,z.o⟩|exact⟨rfl,z.o.draw⟩
end Go.Proofs.YtofcogekgcgjhaaGreatDoor
namespace Go.Proofs.YtofcogekgcgjhaaGreatDoor
open Go.RowKit Go.Mine Go.Mine.Ac Go.Proofs.Tryz
def dr(D:Dk)(i:Nat):Nat:=((D.seen.take i).map fun x=>(D.at x.2).bytes.size).sum
theorem rO{D:Dk}{i:Nat}{x:ByteArray×Nat}(hx:D.seen[i]?=some x):dr D (i+1)=dr D i+(D.at x.2).bytes.size:=by unfold dr;rw[List.take_add_one,hx,List.map_append,List.sum_append];simp
theorem xW(D:Dk)(i:Nat):dr D i<=D.used:=by
 have h:(D.seen.take i++D.seen.drop i)=D.seen:=List.take_append_drop i D.seen;unfold dr Dk.used
 conv=>rhs;rw[<-h]
 rw[List.map_append,List.sum_append];omega
theorem rP(D:Dk){i:Nat}(h:D.seen.length<=i):dr D i=D.used:=by unfold dr Dk.used;rw[List.take_of_length_le h]
def CF(w:World)(D:Dk)(g:Nat)(nv a:Value)(wr:World):Prop:=∃i:Nat,a=.int .i64 i∧nv=.int .i64 (dr D i:Nat)∧i+g=D.seen.length∧TF w wr
theorem xZ{w:World}{rl:Nat->Nat}{r:Nat}{fv sv av pv:Value}{D:Dk}(h:B6 w rl r fv sv av pv D)(j:D.Ok):
  CZ 168 #[pt r] w (RT (.int .i64 D.used) w):=by
 refine(?_:∀P:Ending->World->Prop,Hid (P=fun(e:Ending)(w':World)=>e=.returned (.int .i64 D.used)∧TF w w')->CZ 168 #[pt r] w P) _ rfl;intro P M;obtain⟨n,s⟩:=EX D.seen.length;have a:Hid (n=D.seen.length∧n<=64):=i7 ⟨s,by have:=j.seenOk.many;omega⟩;have y:Hid (B6 w rl r fv sv av pv D∧D.Ok):=⟨h,j⟩;have O:Hid (D.used<=64*16777216):=eP j;obtain⟨V,Y,ac,-,-⟩:=h.seen.value;subst ac;have u:Hid (CF w D n (.int .i64 0) (.int .i64 0) w):=⟨0,rfl,rfl,by omega,TQ⟩;have T:Hid (∀W,TF w W->W.cell? ⟨r,2,none⟩=some (.slice V n Y)∧r<W.heap.size):=i7 fun W d=>by
  have C:=h.turned d fun _ _ q=>q
  rw[s];exact⟨g9 C.blk 2 _ rfl,i6 C.blk⟩
 clear s h j;go_enter func168,ntmps168;go_wp2;go_loopg[3,4] n (fun g nv iv wr=>CF w D g nv iv wr)
 case atStart=>exact u.o
 case round=>
  obtain⟨i,rfl,rfl,H,d⟩:=hrel;have v:Hid (i+gk=D.seen.length):=H;have f:Hid (TF w wr):=d;obtain⟨y1,y2⟩:=T.o wr d;obtain⟨U,m⟩:=EX (dr D i);have A:Hid (U=dr D i):=m;rw[<-m];clear H d u m;by_cases J:i<n
  ·obtain⟨x,hx⟩:∃x,D.seen[i]?=some x:=⟨_,LB (by have:=a.o.1;omega)⟩;have c:=y.o.1.turned f.o fun _ _ q=>q
   have L:x.2<D.files.length:=y.o.2.seenOk.file x (LI hx);obtain⟨z,l⟩:∃z,D.files[x.2]?=some z:=⟨_,LB L⟩;have p:D.at x.2=z:=by simp[Dk.at,l]
   obtain⟨gs,ae,cs,K,-,-,-,F,-,-⟩:=c.seen.opens (by have:=a.o.1;omega);simp only[Value.slice.injEq]at K;obtain⟨rfl,-,rfl⟩:=K;have X:wr.cell? ⟨gs,ae+i*2+1,none⟩=some (.int .i64 x.2):=by rw[Nat.add_assoc,F _ (by have:=a.o.1;omega),Nat.mul_comm];exact(ncellsR_get hx).2
   obtain⟨g,off,N,cap,G,E⟩:=c.fslice l;rw[G]at c;obtain⟨f1,B,-,-,f5,f6,Z,-⟩:=c.fcell E l;have HX:Hid (D.seen[i]?=some x∧D.at x.2=z):=⟨hx,p⟩;have b:Hid (i<n):=J;have aa:decide ((i:Int)<(n:Int))=true:=by simp;omega
   have ab:decide (i<n)=true:=by simp;omega
   have Q:Hid (wrap64 ((i:Int)+1)=((i+1:Nat):Int)):=i7 (by have:=b.o;have:=a.o.2;simp[wrap64];omega);obtain⟨sz,ad⟩:=EX z.bytes.size;have R:Hid (wrap64 ((U:Int)+(z.bytes.size:Int))=((dr D (i+1):Nat):Int)):=i7 (by have h1:=rO hx;have h2:=xW D (i+1);have h3:=O.o;rw[p,<-A.o]at h1;rw[h1];simp only[wrap64];omega);obtain⟨k,I⟩:=EX x.2;rw[<-I]at X B Z;obtain⟨zb,t⟩:=EX z.bytes;rw[<-t]at B;have S:Hid (zb=z.bytes):=t;clear hx F c L l p G E I ad t;go_wp2;go_region
   all_goals go_wp2
   all_goals
    go_roundg (gk-1)
    case measure=>have:=v.o;have:=b.o;have:=a.o;omega
    case rel=>exact⟨i+1,by rw[Q.o],by rw[S.o,R.o],by have:=v.o;have:=b.o;have:=a.o;omega,by first|exact f.o.draw|exact f.o⟩
  ·have aa:decide ((i:Int)<(n:Int))=false:=by simp;omega
   have ab:decide (i<n)=false:=by simp;omega
   have b:Hid (n<=i):=i7 (by omega);clear J;go_wp2;rw[M.o];exact⟨by rw[A.o,rP D (by have:=a.o.1;have:=b.o;omega)];rfl,f.o⟩
theorem ya(s:I2)(l:List ByteArray)(w:World){S:Nat->Prop}{a:Option Addr}{cap:Nat}(aH:s.seed<4294967296)(h:Sl w S 9 1 (.slice a l.length cap) (l.map Value.string) l.length)(hl:l.length<=1000000)(hs:∀x∈l,x.size<=1000000000):
    CZ 232 #[J3 s,.slice a l.length cap] w (P7 w s l):=by
  obtain⟨Z,hZ⟩:=EX (P7 w s l);have HZ:Hid (Z=P7 w s l):=hZ;rw[<-hZ];obtain⟨u,hV⟩:=EX ((w.alloc (.cells #[.int .i64 s.h,.int .i64 s.p,.int .i64 s.m,.int .u32 s.seed] 24)).alloc (.cells #[.int .i64 0,.string ⟨#[]⟩] 46));have aW:Hid (u=(w.alloc (.cells #[.int .i64 s.h,.int .i64 s.p,.int .i64 s.m,.int .u32 s.seed] 24)).alloc (.cells #[.int .i64 0,.string ⟨#[]⟩] 46)):=hV;obtain⟨tV,xS,xF⟩:=p8 (w:=w) (.cells #[.int .i64 s.h,.int .i64 s.p,.int .i64 s.m,.int .u32 s.seed] 24) (.cells #[.int .i64 0,.string ⟨#[]⟩] 46);rw[<-hV]at tV xS xF;have TV:Hid (TF w u):=tV;have au:Hid (∀(W:World)(T:Nat->Prop),d7 T u W->¬T w.heap.size->W.cell? ⟨w.heap.size,0,none⟩=some (.int .i64 s.h)∧W.cell? ⟨w.heap.size,1,none⟩=some (.int .i64 s.p)∧W.cell? ⟨w.heap.size,2,none⟩=some (.int .i64 s.m)∧W.cell? ⟨w.heap.size,3,none⟩=some (.int .u32 s.seed)∧w.heap.size<W.heap.size):=fun W T q z=>by have ha:=j9 xS q z;exact⟨g9 ha 0 _ rfl,g9 ha 1 _ rfl,g9 ha 2 _ rfl,g9 ha 3 _ rfl,i6 ha⟩
  have af:Hid (∀(W:World)(T:Nat->Prop),d7 T u W->¬T (w.heap.size+1)->W.heap[w.heap.size+1]?=some (.cells #[.int .i64 0,.string ⟨#[]⟩] 46)):=fun W T q z=>j9 xF q z
  obtain⟨v0,v1,v2,v3,v4⟩:=au.o u (fun _=>False) TQ id;have ae:Hid (CZ 131 #[.agg #[.int .i64 s.h,.int .i64 s.p,.int .i64 s.m,.int .u32 s.seed]] u (RT (.int .i64 (if n0 s then 0 else 1)) u)):=ij s u;have bN:=@run_makeMap prog;have HH:=i7 h;have aR:Hid (l.length<=1000000∧(∀x∈l,x.size<=1000000000)∧s.seed<4294967296):=⟨hl,hs,aH⟩;by_cases F:n0 s
  ·rw[if_pos F]at ae;have HG:Hid (n0 s):=F;obtain⟨L,hL⟩:=EX l.length;have I:Hid (L=l.length∧L<=1000000):=⟨hL,by omega⟩;rw[<-hL];clear hZ hV tV xS xF F h hl hs aH hL;go_enter func232,ntmps232;go_wp2_with fail;rw[<-aW.o];go_wp2_with(go_fit ae.o;rintro e w1⟨rfl,q⟩;replace q:=i7 q);obtain⟨X,hX⟩:=EX (w1.alloc (.map #[] 0));obtain⟨c,al⟩:=EX w1.heap.size;have az:z8 KStr X c (jz []) 0:=by rw[hX,al];exact(z8.made KStr w1).congr rfl fun k=>by cases k<;>simp[jz]
   have aY:D7 X c:=by rw[hX,al];exact D7.made w1
   have aB:TF u X:=by rw[hX];exact q.o.new _
   have bf:w.heap.size+1<c:=by have:=i6 (af.o w1 _ q.o id);omega
   have b3:c<X.heap.size:=az.lt;rw[<-al,<-hX];have TX:Hid (TF u X∧w.heap.size+1<c∧u.heap.size<=c):=⟨aB,bf,by rw[al];exact q.o.size⟩;have B0:Hid (CD X c l L (.int .i64 0) X):=⟨0,by have:=I.o;omega,rfl,by simpa[once]using az,aY,TQ⟩;have ao:Hid (∀wr,d7 (· =c) X wr->TF w wr):=fun wr t=>(TV.o.tr aB).comp t fun i hi z=>z.elim id fun z=>by omega
   clear q hX al az aY aB bf v0 v1 v2 v3 v4 bN ae;go_loopg[23] L (fun g iv wr=>CD X c l g iv wr)
   case atStart=>exact B0.o
   case round=>
     clear B0;obtain⟨j,ba,rfl,be,a2,H⟩:=hrel;have G:Hid (j+gk=l.length):=ba;have Q:Hid (d7 (· =c) X wr):=H;have K:Hid (z8 KStr wr c (jz (l.take j)) (once (l.take j)).length):=be;have aQ:Hid (D7 wr c):=a2;clear ba H be a2;by_cases U:j<L
     ·obtain⟨p,hp⟩:∃p,l[j]?=some p:=⟨_,LB (by rw[<-I.o.1];exact U)⟩;have HP:Hid (l[j]?=some p):=hp;obtain⟨g,off,bW,am,-,-,-,aj,-,ak⟩:=HH.o.opens (by rw[<-I.o.1];omega);simp only[Value.slice.injEq]at am;obtain⟨rfl,-,-⟩:=am;have C:wr.cell? ⟨g,off+j,none⟩=some (.string p):=m6 (by rw[aj j (by rw[<-I.o.1];omega),List.getElem?_map,hp];rfl) (ao.o wr Q.o) id;have bI:g<wr.heap.size:=LC ak (ao.o wr Q.o).size;clear hp aj ak;go_wp2_with(at_mapUpdate;go_must (refine fD rfl _ _ _ 349 rfl 9 276 keyStr underlying349 K.o aQ.o rfl (.string p) (.agg #[]) rfl rfl (zd _) ?_);intro D bd ah ad aO;have M3:=i7 (And.intro bd (And.intro ah ad));clear bd ah ad aO);go_roundg (gk-1)
      case measure=>have:=G.o;have:=I.o;omega
      case rel=>
        have e1:l.take (j+1)=l.take j++[p]:=by rw[List.take_add_one,HP.o];rfl
        refine⟨j+1,by have:=G.o;have:=I.o;omega,by have:=I.o;simp[wrap64];omega,?_,M3.o.2.1,Q.o.tr M3.o.2.2⟩;rw[e1,gV];have:=M3.o.1;rw[xT]at this;by_cases hq:p∈l.take j
        ·rw[if_pos (by simpa using hq)]at this;rw[if_pos hq];exact this.congr rfl fun k=>nN _ _ _
        ·rw[if_neg (by simpa using hq)]at this;rw[if_neg hq];exact this.congr rfl fun k=>nN _ _ _
     ·have hj:j=L:=by have:=G.o;have:=I.o.1;omega
      have HE:Hid (l.take j=l):=LQ (by have:=I.o.1;omega);rw[HE.o]at K;clear U;subst hj;obtain⟨n,hn⟩:=EX ((once l).length);rw[<-hn]at K;have HN:Hid (n=(once l).length):=hn;clear hn;obtain⟨v0,v1,v2,v3,v4⟩:=au.o wr (· =c) ((TX.o.1.mono fun _ _ z=>z.elim).tr Q.o) (by have:=TX.o.2.1;omega);have k0:=af.o wr (· =c) ((TX.o.1.mono fun _ _ z=>z.elim).tr Q.o) (by have:=TX.o.2.1;omega);have f0:=j7 k0 0;have f1:=j7 k0 1;have C:=g9 k0 0 _ rfl;have R:=g9 k0 1 _ rfl;have kl:=i6 k0;clear k0;have aX:Hid (s.m.toNat=s.m):=i7 (by have:=HG.o;unfold n0 at this;omega);have bL:=K.o.len underlying349 3;by_cases hm:s.m<(n:Int)
      ·have d1:decide (s.m<(n:Int))=true:=by simp[hm]
       have bq:Hid (qq s l=.tuple #[dZ ⟨2,⟨#[]⟩⟩,.int .i64 0]):=i7 (by unfold qq;rw[if_pos HG.o,Y3 (by have:=HN.o;have:=aX.o;omega)]);clear hm;go_wp2;refine bodyPost_ret (v:=.tuple #[dZ ⟨2,⟨#[]⟩⟩,.int .i64 0]) (by simp[results,Tryz.results232,go_sem,C,R,kl,f0,f1]) rfl ?_;rw[HZ.o];exact⟨by rw[bq.o],((ao.o wr Q.o).fresh (Nat.le_succ _) _).fresh (Nat.le_succ _) _⟩
      ·have d1:decide (s.m<(n:Int))=false:=by simp;omega
       have bw:Hid (¬s.m<(n:Int)):=hm;obtain⟨pp,bj⟩:=EX s.p.toNat;have aJ:s.p=(pp:Int):=by have:=HG.o;unfold n0 at this;omega
       rw[aJ]at v1;have av:Hid (pp=s.p.toNat∧s.p=(pp:Int)∧pp<=64∧n<=512):=⟨bj,aJ,by have:=HG.o;unfold n0 at this;omega,by have:=HG.o;unfold n0 at this;omega⟩;obtain⟨np,qn,N,bg,aL,aM,aN,bO⟩:=ma n pp av.o.2.2.2 av.o.2.2.1;have M:Hid (np=n*pp∧np<=32768∧qn=(np+7) / 8∧N=max 1 qn∧1<=N∧N<=4096):=bg;obtain⟨Z5,aD⟩:=EX (madeCells #[.int .u8 0] (N*1));have bM:∀W:World,(Instr.makeSlice 83 (.int .i64 (N:Int)) (.int .i64 (N:Int))).run prog W=.ok (.slice (some ⟨W.heap.size,0,none⟩) N N) (W.alloc (.cells Z5 5)):=fun W=>by rw[aD];exact lZ N (LR M.o.2.2.2.2.2 (by decide)) W
       have bC:Hid (Z5=madeCells #[.int .u8 0] (N*1)):=aD;clear hm bj aJ bg aD;go_upto_region 13 with(fail)
       obtain⟨W2,ab⟩:=EX (wr.alloc (.cells Z5 5));obtain⟨d,ai⟩:=EX wr.heap.size;have ar:TF wr W2:=by rw[ab];exact TA
       have aA:=K.o.congr (ar.block c K.o.lt id) fun _=>rfl
       have bE:=aQ.o.congr (ar.block c K.o.lt id);have bp:Sl W2 (· =d) 5 1 (.slice (some ⟨d,0,none⟩) N N) (o9 (F1 N (dF s (8*N) []))) N:=by rw[ab,bC.o,ai,nP];exact rN N (LR M.o.2.2.2.2.2 (by decide)) wr _ rfl
       obtain⟨f,A,aq,a1,a0⟩:=bE;obtain⟨hk,a8⟩:=zO aA aq;have bP:(Instr.range 349 (.map (some c))).run prog W2=.ok (.pointer (some ⟨W2.heap.size,0,none⟩)) (W2.alloc (.mapIter (some c) A #[] A)):=run_range_map W2 349 9 276 c _ _ underlying349 aq;rw[<-ai,<-ab];obtain⟨r,P⟩:=EX W2.heap.size;obtain⟨E,aa⟩:=EX (W2.alloc (.mapIter (some c) A #[] A));have aP:TF W2 E:=by rw[aa];exact TA
       have B3:Hid (Bz s N f A c r d E (leftOf f #[]).size E):=⟨#[],[],A,rfl,O8.start f,by rw[aa,P];exact i8 _ _,LS _,by rw[aa];exact(G8 _ aA.lt).trans aq,bp.turned aP fun _ _ z=>z,TQ⟩;have HE:Hid (∀e∈f.toList,∃p,e.key=.string p∧p.size<=1000000000):=fun e he=>by obtain⟨p,hp⟩:=a8 e he;have h1:Value.string p∈(once l).map Value.string:=hk.mem_iff.1 (hp▸List.mem_map.2 ⟨e,he,rfl⟩);obtain⟨p2,h2,h3⟩:=List.mem_map.1 h1;injection h3 with h3;exact⟨p,hp,aR.o.2.1 p (h3▸once_mem.1 h2)⟩
       have HB:Hid (∀x∈f.toList,x.born<A):=a1;have aS:Hid ((f.toList.map (·.born)).Nodup):=a0;have HK:Hid ((f.toList.map (·.key)).Perm ((once l).map Value.string)):=hk;have V:Hid (TF wr E∧d=wr.heap.size∧r=wr.heap.size+1∧r<E.heap.size∧d<E.heap.size):=⟨ar.tr aP,ai,by rw[P,ab];simp,by rw[aa,P];simp,by rw[aa,ai,ab];simp;omega⟩;have ax:Hid (∀W,d7 (fun b=>b=r∨b=d) E W->d7 (fun b=>b=c∨b=r∨b=d) u W∧TF w W∧¬(w.heap.size=c∨w.heap.size=r∨w.heap.size=d)∧¬(w.heap.size+1=c∨w.heap.size+1=r∨w.heap.size+1=d)):=fun W t=>by
         have t1:d7 (· =c) u wr:=(TX.o.1.mono fun _ _ z=>z.elim).tr Q.o;have t2:d7 (· =c) u E:=t1.trans V.o.1 fun _ _ z=>z.elim
         have h1:=TX.o.2.1;have h2:=TX.o.2.2;have h3:=t1.size;have h4:=V.o.2.1;have h5:=V.o.2.2.1;have h6:=K.o.lt;refine⟨t2.comp t fun i _ z=>z,((ao.o wr Q.o).tr V.o.1).comp t fun i hi z=>z.elim id fun z=>?_,by omega,by omega⟩;have h7:=TV.o.size;omega
       have bo:W2.heap.size=r:=P.symm;rw[bo,<-aa]at bP;have bB:Hid (wrap64 (8*(N:Int))=((8*N:Nat):Int)):=by
         have h1:=M.o.2.2.2.2.2;have h2:wrap64 (8*(N:Int))=((8*N:Nat):Int):=by simp only[wrap64];omega
         exact h2
       clear ab ai ar aA bp aq a1 a0 hk a8 P aa aP bo bM bO aL aM aN bL v0 v1 v2 v3 v4 f0 f1 C R kl d1;go_wp2;go_loopg[11] (leftOf f #[]).size (fun g pv wr=>Bz s N f A c r d E g wr)
       case atStart=>exact B3.o
       case round=>
         clear B3;obtain⟨seen,B,C,F,bn,P,hc,hb,ac,H⟩:=hrel;have bU:Hid ((leftOf f seen).size=gk):=F;have aV:Hid (O8 f seen B):=bn;have bA:Hid (d7 (fun b=>b=r∨b=d) E wr):=H;have aU:=i7 ac;clear bn ac
         go_wp2_with(first|(at_next;refine df wr rfl _ rfl r c A C seen f rfl P hb HB.o aS.o hc ?_ ?_
                            (intro h0;have H0:Hid ((leftOf f seen).size=0):=h0;clear h0 F P hc hb H)
                            rotate_left
                            intro e D a6 a4 a7 bk ah ad aO U;have bu:Hid ((leftOf f (seen.push e.born)).size<gk):=(by rw[<-F];exact U:(leftOf f (seen.push e.born)).size<gk);have T3:Hid (d7 (fun b=>b=r∨b=d) E D):=H.trans ad fun _ _ z=>.inl z
                            have R3:Hid (D.heap[r]?=some (.mapIter (some c) A (seen.push e.born) A)∧D.heap[c]?=some (.map f A)):=⟨bk,ah⟩;have V3:Hid (O8 f (seen.push e.born) (B++[e])):=aV.o.step aS.o a4;obtain⟨p,aF,aG⟩:=HE.o e a6;have bt:Hid (e.key=.string p∧p.size<=1000000000):=⟨aF,aG⟩;have bD:Hid (Sl D (· =d) 5 1 (.slice (some ⟨d,0,none⟩) N N) (o9 (F1 N (dF s (8*N) (B.map JX)))) N):=aU.o.turned ad fun b hb z=>(by have:=V.o;omega)
                            rw[aF]at a7 ⊢;obtain⟨v0,v1,v2,v3,v4⟩:=au.o D _ (ax.o D T3.o).1 (ax.o D T3.o).2.2.1;have O:CZ 130 #[.agg #[.int .i64 s.h,.int .i64 s.p,.int .i64 s.m,.int .u32 s.seed],.string p,.int .i64 (wrap64 (8*(N:Int)))] D (dY D (E3 (o0 s p (8*N)))):=(by rw[bB.o];exact km s p (8*N) D aR.o.2.2 aG (by have:=M.o.2.2.2.2.2;omega));have aT:=i7 O;clear a6 a4 bk ah ad aO U F P hc hb H aF aG O)|(go_fit aT.o;rintro e5 w5⟨v5,rfl,aI,bl⟩;obtain⟨a5,c5,rfl,-,-⟩:=aI.value;have P5:=i7 (And.intro aI bl);clear aI bl))
         ·obtain⟨pl,O⟩:∃pl,pl=o0 s p (8*N):=⟨_,rfl⟩;have bh:pl.length<=16:=by rw[O];exact kp _ _ _
          have bz:Hid (∀x∈pl,x<8*N):=fun x hx=>by rw[O]at hx;exact lX hx
          have bx:Hid (pl=o0 s p (8*N)):=O;rw[<-O]at P5;obtain⟨Y,ag⟩:=EX ((E3 pl).length);have J:Hid (Y=pl.length∧Y=(E3 pl).length∧Y<=16):=⟨by rw[ag];simp[E3],ag,by rw[ag];simpa[E3]using bh⟩;rw[<-O,<-ag];have B5:Hid (wu s N (B.map JX) pl d w5 Y (.int .i64 0) w5):=⟨0,by have:=J.o;omega,rfl,by rw[List.take_zero,nQ];exact bD.o.turned P5.o.2 fun _ _ z=>z,TQ⟩;clear O bh ag v0 v1 v2 v3 v4 a7 aT;generalize wr=Wk at *;generalize bH:gk=Gk at *;clear bH;go_loopg[59] Y (fun g iv wr=>wu s N (B.map JX) pl d w5 g iv wr)
          case atStart=>exact B5.o
          case round=>
            clear B5;obtain⟨k,bc,rfl,ac,H⟩:=hrel;have GK:Hid (k+gk=pl.length):=bc;have aw:=i7 ac;have an:Hid (d7 (· =d) w5 wr):=H;clear bc H;by_cases U:k<Y
            ·obtain⟨x,hx⟩:∃x,pl[k]?=some x:=⟨_,LB (by rw[<-J.o.1];exact U)⟩;have HX:Hid (pl[k]?=some x∧x<8*N):=⟨hx,bz.o x (LI hx)⟩;obtain⟨g,off,bX,am,bJ,-,-,aj,-,ak⟩:=P5.o.1.opens (by rw[<-J.o.2.1];omega);simp only[Value.slice.injEq]at am;obtain⟨rfl,-,-⟩:=am;have bG:¬g=d:=by have h1:=V.o.2.2.2.2;have h2:=T3.o.size;omega
             have C:wr.cell? ⟨g,off+k,none⟩=some (.int .i64 (x:Nat)):=m6 (by rw[aj k (by rw[<-J.o.2.1];omega)];unfold E3;rw[List.getElem?_map,List.getElem?_map,hx];rfl) an.o bG;have bI:g<wr.heap.size:=LC ak an.o.size;obtain⟨y,hy⟩:=EX (x / 8);obtain⟨t,aK⟩:=EX (x% 8);have bR:y<N:=by have:=HX.o.2;omega
             obtain⟨b,ap⟩:=EX (X2 (iR s (8*N) (B.map JX) (pl.take k)) y);have aE:b<256:=by rw[ap];exact lD _ _
             obtain⟨g2,b5,bY,bm,-,-,-,a3,a9,b2⟩:=aw.o.opens (by have:=M.o.2.2.2.2.1;omega);simp only[Value.slice.injEq,Option.some.injEq,Addr.mk.injEq]at bm;obtain⟨⟨rfl,rfl,-⟩,-,rfl⟩:=bm;have R:wr.cell? ⟨d,y,none⟩=some (.int .u8 (b:Nat)):=by have:=a3 y (by omega);rw[Nat.zero_add]at this;rw[this];unfold o9;rw[List.getElem?_map,lW _ bR,<-ap];simp[UInt8.toNat_ofNat',Nat.mod_eq_of_lt aE]
             have f1:=a9 y;have b4:t<8:=by omega
             have ay:Hid (y=x / 8∧t=x% 8∧b=X2 (iR s (8*N) (B.map JX) (pl.take k)) y∧b<256):=⟨hy,aK,ap,aE⟩;obtain⟨aL,aM⟩:=dq y (by have:=M.o.2.2.2.2.2;omega);obtain⟨aN,bQ⟩:=dq t (by omega);obtain⟨X,aC,aZ,bF⟩:=DU x y t hy aK;rw[<-aC]at C;have bV:Hid (X=(x:Int)):=aC;clear hx aj ak aC hy aK ap aE a3 a9 bJ ac;obtain⟨bZ,b0⟩:=jB X y aZ aL aM;clear aZ aN bQ;rcases(show t=0∨t=1∨t=2∨t=3∨t=4∨t=5∨t=6∨t=7 by clear bF;omega)with rfl|rfl|rfl|rfl|rfl|rfl|rfl|rfl
             all_goals go_upto_region 19 with(fail)
             all_goals go_region
             all_goals go_wp2
             all_goals
               go_roundg (gk-1)
               case measure=>have:=GK.o;have:=J.o;omega
               case rel=>
                 refine⟨k+1,by have:=GK.o;have:=J.o;omega,by have:=J.o;simp[wrap64];omega,?_,(an.o.set (p:=⟨d,y,none⟩) rfl _).draw⟩;have e1:pl.take (k+1)=pl.take k++[x]:=by rw[List.take_add_one,HX.o.1];rfl
                 rw[e1,<-nO];exact wt aw.o HX.o.2 ay.o.1 ay.o.2.1 ay.o.2.2.1 _ (by decide)
            ·have hk:pl.take k=pl:=LQ (by have:=J.o;omega);have bK:k=Y:=by have:=GK.o;have:=J.o;omega
             have br:Hid (iR s (8*N) (B.map JX) (pl.take k)=dF s (8*N) ((B++[e]).map JX)):=i7 (by rw[hk,bx.o,rK,List.map_append,List.map_cons,List.map_nil,xY bt.o.1]);clear hk U ac;subst bK;go_wp2;go_roundg ((leftOf f (seen.push e.born)).size)
             case measure=>exact bu.o
             case rel=>
               have t5:d7 (· =d) D wr:=(P5.o.2.mono fun _ _ z=>z.elim).tr an.o;have h1:=V.o;have h2:=T3.o.size;have h3:=K.o.lt;refine⟨seen.push e.born,B++[e],A,rfl,V3.o,(t5.block r (by omega) (by omega)).trans R3.o.1,LS _,(t5.block c (by omega) (by omega)).trans R3.o.2,?_,T3.o.trans t5 fun _ _ z=>.inr z⟩;rw[<-br.o];exact aw.o
         ·obtain⟨q1,q2,q3,q4⟩:=ax.o wr bA.o;have k0:=af.o wr _ q1 q4;have f0:=j7 k0 0;have f1:=j7 k0 1;have C:=g9 k0 0 _ rfl;have R:=g9 k0 1 _ rfl;have kl:=i6 k0;clear k0 q1 q3 q4;have b1:=dJ (bs:=F1 N (dF s (8*N) (B.map JX))) (by rw[dp];exact aU.o);have bi:=xU (aV.o.done H0.o) HK.o
          have bv:Hid (H3 s l=⟨1,⟨(F1 N (dF s (8*N) (B.map JX))).toArray⟩⟩):=i7 (by
            have e1:ep s (once l).length=N:=by unfold ep;rw[<-HN.o,<-av.o.1,<-M.o.1,<-M.o.2.2.1,<-M.o.2.2.2.1]
            rw[Y7 (by have:=HN.o;have:=aX.o;have:=bw.o;omega),e1,nR bi])
          have HQ:Hid (TF w wr):=q2;clear bi q2;generalize(F1 N (dF s (8*N) (B.map JX))).toArray=BB at *;have bS:wr.cell? ⟨w.heap.size+1,0,none⟩=some (.int .i64 0):=C;have bT:wr.cell? ⟨w.heap.size+1,1,none⟩=some (.string ⟨#[]⟩):=R;clear C R;go_simp;go_wp2;refine bodyPost_ret (v:=.tuple #[dZ ⟨1,⟨BB⟩⟩,.int .i64 0]) (by simp[results,Tryz.results232,go_sem,bS,bT,kl,f0,f1]) rfl ?_;rw[HZ.o];exact⟨by unfold qq;rw[if_pos HG.o,bv.o],(HQ.o.fresh (Nat.le_succ _) _).fresh (Nat.le_succ _) _⟩
  ·rw[if_neg F]at ae;have HE:Hid (qq s l=.tuple #[dZ ⟨0,⟨#[]⟩⟩,.int .i64 1]):=i7 (by unfold qq;rw[if_neg F]);clear hZ hV tV xS xF F h hl hs aH;have f0:=af.o;go_enter func232,ntmps232;go_wp2_with fail;rw[<-aW.o];go_wp2_with(go_fit ae.o;rintro e w1⟨rfl,q⟩;have k0:=af.o w1 _ q id;have f0:=j7 k0 0;have f1:=j7 k0 1;have C:=g9 k0 0 _ rfl;have R:=g9 k0 1 _ rfl;have kl:=i6 k0;replace q:=i7 q);refine bodyPost_ret (v:=.tuple #[dZ ⟨0,⟨#[]⟩⟩,.int .i64 1]) (by simp[results,Tryz.results232,go_sem,C,R,kl,f0,f1]) rfl ?_;rw[HZ.o];exact⟨by rw[HE.o],((TV.o.tr q.o).fresh (Nat.le_succ _) _).fresh (Nat.le_succ _) _⟩
end Go.Proofs.YtofcogekgcgjhaaGreatDoor
