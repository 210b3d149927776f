/- Packed. -/
import Derived.Test.YtofcogekgcgjhaaGreatDoorZzbj
import Derived.Test.YtofcogekgcgjhaaGreatDoorZzbf
set_option maxRecDepth 100000
set_option maxHeartbeats 8000000
namespace Go.Proofs.YtofcogekgcgjhaaGreatDoor
open Go.RowKit Go.Mine Go.Mine.Ac Go.Proofs.Tryz
theorem diffC_path:∀(a b:List Ent)(x:Dc),x∈diffC a b->(∃y∈a,x.path=y.1)∨∃y∈b,x.path=y.1:=by
 intro a b
 fun_induction diffC a b with
 |case1 b=>intro x hx;obtain⟨y,g,rfl⟩:=List.mem_map.1 hx;exact .inr ⟨y,g,rfl⟩
 |case2 f a=>intro x hx;obtain⟨y,g,rfl⟩:=List.mem_map.1 hx;exact .inl ⟨y,g,rfl⟩
 |case3 f a y b h d=>
  intro x hx;rcases List.mem_cons.1 hx with rfl|hx
  ·exact .inl ⟨f,List.mem_cons_self,rfl⟩
  ·exact(d x hx).imp (fun⟨z,c,e⟩=>⟨z,LP _ c,e⟩) id
 |case4 f a y b h1 h2 d=>
  intro x hx;rcases List.mem_cons.1 hx with rfl|hx
  ·exact .inr ⟨y,List.mem_cons_self,rfl⟩
  ·exact(d x hx).imp id fun⟨z,c,e⟩=>⟨z,LP _ c,e⟩
 |case5 f a y b h1 h2 h3 d=>intro x hx;exact(d x hx).imp (fun⟨z,c,e⟩=>⟨z,LP _ c,e⟩) fun⟨z,c,e⟩=>⟨z,LP _ c,e⟩
 |case6 f a y b h1 h2 h3 d=>
  intro x hx;rcases List.mem_cons.1 hx with rfl|hx
  ·exact .inl ⟨f,List.mem_cons_self,rfl⟩
  ·exact(d x hx).imp (fun⟨z,c,e⟩=>⟨z,LP _ c,e⟩) fun⟨z,c,e⟩=>⟨z,LP _ c,e⟩
theorem dcells_get:∀{l:List Dc}{i:Nat}{x:Dc},l[i]?=some x->(I8 l)[i*3]?=some (.string x.path)∧(I8 l)[i*3+1]?=some (.int .u32 x.old)∧(I8 l)[i*3+2]?=some (.int .u32 x.new)
 | [],_,_,h=>by simp at h
 |y::t,0,x,h=>by simp at h;subst h;simp[I8]
 |y::t,i+1,x,h=>by have:=dcells_get (l:=t) (i:=i) (by simpa using h);simpa[I8,Nat.add_mul,Nat.add_right_comm]using this
def wN(a:World)(l:List Dc)(g:Nat)(d c:Value)(wr:World):Prop:=∃j:Nat,j+g=l.length∧c=.int .i64 j∧Sl wr (fun b=>a.heap.size<=b) 9 1 d (((l.take j).map (·.path)).map Value.string) j∧d7 (fun b=>a.heap.size<=b) a wr
theorem BJ(s:I2){w:World}{S:Nat->Prop}{va vb:Value}{ta c:List Ent}(ah:s.seed<4294967296)(u:Sl w S 96 2 va (o6 ta) ta.length)(D:Sl w S 96 2 vb (o6 c) c.length)(hS:∀b,S b->b<w.heap.size)(na:∀x∈ta,(x.2≠0∧x.2<4294967296)∧x.1.size<=1000000000)(nb:∀x∈c,(x.2≠0∧x.2<4294967296)∧x.1.size<=1000000000)
  (la:ta.length<=100000) (lb:c.length<=100000):CZ 142 #[J3 s,va,vb] w (P7 w s (diffP ta c)):=by
 obtain⟨Z,hZ⟩:=EX (P7 w s (diffP ta c));have HZ:Hid (Z=P7 w s (diffP ta c)):=hZ;rw[<-hZ];obtain⟨r,hV⟩:=EX ((w.alloc (.cells #[.int .i64 s.h,.int .i64 s.p,.int .i64 s.m,.int .u32 s.seed] 24)).alloc (.cells #[.int .i64 0,.string ⟨#[]⟩] 46));have ap:Hid (r=(w.alloc (.cells #[.int .i64 s.h,.int .i64 s.p,.int .i64 s.m,.int .u32 s.seed] 24)).alloc (.cells #[.int .i64 0,.string ⟨#[]⟩] 46)):=hV;obtain⟨f,xS,O⟩:=p8 (w:=w) (.cells #[.int .i64 s.h,.int .i64 s.p,.int .i64 s.m,.int .u32 s.seed] 24) (.cells #[.int .i64 0,.string ⟨#[]⟩] 46);rw[<-hV]at f xS O;have TV:Hid (TF w r):=f;have ak:Hid (∀(W:World)(T:Nat->Prop),d7 T r W->¬T w.heap.size->W.cell? ⟨w.heap.size,0,none⟩=some (.int .i64 s.h)∧W.cell? ⟨w.heap.size,1,none⟩=some (.int .i64 s.p)∧W.cell? ⟨w.heap.size,2,none⟩=some (.int .i64 s.m)∧W.cell? ⟨w.heap.size,3,none⟩=some (.int .u32 s.seed)∧w.heap.size<W.heap.size):=fun W T q z=>by have u:=j9 xS q z;exact⟨g9 u 0 _ rfl,g9 u 1 _ rfl,g9 u 2 _ rfl,g9 u 3 _ rfl,i6 u⟩
 have am:Hid (∀(W:World)(T:Nat->Prop),d7 T r W->¬T (w.heap.size+1)->W.heap[w.heap.size+1]?=some (.cells #[.int .i64 0,.string ⟨#[]⟩] 46)):=fun W T q z=>j9 O q z
 have ag:=i6 O;have V:Hid (CZ 231 #[va,vb] r (eh r ta c)):=yu (u.turned f fun _ _ z=>z) (D.turned f fun _ _ z=>z) (fun b D=>LC (hS b D) f.size) (fun x hx=>(na x hx).1) (fun x hx=>(nb x hx).1) (by omega) (by omega);have HP:Hid (diffP ta c=(diffC ta c).map (·.path)∧(diffC ta c).length<=200000∧∀x∈diffC ta c,x.path.size<=1000000000):=by
  refine⟨rn ta c,by have:=gC ta c;omega,fun x hx=>?_⟩;rcases diffC_path ta c x hx with⟨y,E,e⟩|⟨y,E,e⟩
  ·rw[e];exact(na y E).2
  ·rw[e];exact(nb y E).2
 have ac:Hid (s.seed<4294967296∧w.heap.size+1<r.heap.size):=⟨ah,ag⟩;unfold eh at V;generalize diffC ta c=l at *;obtain⟨L,J⟩:=EX l.length;have d:Hid (L=l.length∧L<=200000):=⟨J,by rw[J];exact HP.o.2.1⟩;rw[<-J]at V;clear J;clear hZ hV f xS O u D hS na nb la lb ah ag;go_enter func142,ntmps142;go_wp2_with fail;rw[<-ap.o];go_wp2_with(go_fit V.o;rintro e A⟨v1,rfl,C,q⟩;obtain⟨a1,H,rfl,-,-⟩:=C.value;have G:=i7 (And.intro C q);clear C q);have B0:Hid (wN A l L (.slice none 0 0) (.int .i64 0) A):=⟨0,by have:=d.o;omega,rfl,by simpa using Sl.nil _ _ _ _,TQ⟩;go_loopg[8,15] L (fun g pv iv wr=>wN A l g pv iv wr)
 case atStart=>exact B0.o
 case round=>
  clear B0;obtain⟨j,ae,rfl,C,ht⟩:=hrel;have U:Hid (j+gk=l.length):=ae;have n:Hid (d7 (fun b=>A.heap.size<=b) A wr):=ht;obtain⟨pa,pc,rfl,-,-⟩:=C.value;have HSL:=i7 C;clear ae ht C;by_cases af:j<L
  ·obtain⟨x,hx⟩:∃x,l[j]?=some x:=⟨_,LB (by rw[<-d.o.1];exact af)⟩;have HX:Hid (l[j]?=some x):=hx;obtain⟨g,off,ax,aj,ar,-,-,K,-,ad⟩:=G.o.1.opens (by omega);simp only[Value.slice.injEq]at aj;obtain⟨rfl,-,-⟩:=aj;obtain⟨e0,I,e2⟩:=dcells_get hx;have au:j*3+3<=L*3:=by omega
   have N:¬A.heap.size<=g:=by omega
   have c0:wr.cell? ⟨g,off+j*3,none⟩=some (.string x.path):=m6 (by rw[K _ (by omega)];exact e0) n.o N;have H:wr.cell? ⟨g,off+j*3+1,none⟩=some (.int .u32 x.old):=m6 (by rw[Nat.add_assoc,K _ (by omega)];exact I) n.o N;have c2:wr.cell? ⟨g,off+j*3+2,none⟩=some (.int .u32 x.new):=m6 (by rw[Nat.add_assoc,K _ (by omega)];exact e2) n.o N;have ay:g<wr.heap.size:=LC ad n.o.size;obtain⟨B,R,Q⟩:=x;dsimp only at c0 H c2;have m1:Hid (j+1<=maxLen∧(j+1)*16<=140737488355328):=i7 (by have:=d.o;simp only[maxLen];omega);have T1:Hid (TF wr ((wr.alloc (.cells #[.string B,.int .u32 R,.int .u32 Q] 297)).alloc (.cells #[.string B] 9))):=TA.new _;have aq:Hid (Src prog 1 84 (.slice (some ⟨wr.heap.size+1,0,none⟩) 1 1) 1 [.string B] ((wr.alloc (.cells #[.string B,.int .u32 R,.int .u32 Q] 297)).alloc (.cells #[.string B] 9))):=i7 (by have:=R6 (P:=prog) underlying84 (.string B) rfl (wr.alloc (.cells #[.string B,.int .u32 R,.int .u32 Q] 297));simpa using this);clear hx K ad e0 I e2 ar au N;go_wp2_with(at_builtin;refine m7 rfl _ _ 84 84 rfl (HSL.o.turned (T:=fun _=>False) T1.o (fun _ _ q=>q)) underlying84 infoS9 rfl (by decide) rfl (.slice (some ⟨wr.heap.size+1,0,none⟩) 1 1) rfl aq.o m1.o.1 m1.o.2 ?_;intro v5 w5 ab ai;obtain⟨a5,c5,rfl,-,-⟩:=ab.value;have Y:=i7 (And.intro ab ai);clear ab ai);go_roundg (gk-1)
   case measure=>have:=U.o;have:=d.o;omega
   case rel=>
    refine⟨j+1,by have:=U.o;have:=d.o;omega,by have:=d.o;simp[wrap64];omega,?_,n.o.tr (T1.o.comp Y.o.2 fun i hi z=>z.elim False.elim id)⟩;have I:l.take (j+1)=l.take j++[⟨B,R,Q⟩]:=by rw[List.take_add_one,HX.o];rfl
    rw[I,List.map_append,List.map_append];refine Y.o.1.widen fun b D=>?_
    have h1:=n.o.size;have h2:=T1.o.size;rcases D with z|z
    ·exact z
    ·omega
  ·have hj:j=L:=by have:=U.o;have:=d.o.1;omega
   have HE:Hid (l.take j=l):=LQ (by have:=d.o.1;omega);rw[HE.o]at HSL;obtain⟨F,k,aa⟩:∃(F:AY)(k:Int),qq s (l.map (·.path))=.tuple #[dZ F,.int .i64 k]:=by
    unfold qq;split
    ·exact⟨_,_,rfl⟩
    ·exact⟨_,_,rfl⟩
   have M:(l.map (·.path)).length=j:=by rw[List.length_map];have:=d.o.1;omega
   have f:d7 (fun b=>A.heap.size<=b) r wr:=(G.o.2.mono fun _ _ z=>z.elim).tr n.o;have av:=G.o.2.size;have aw:=ac.o.2
   have X:Hid (CZ 232 #[.agg #[.int .i64 s.h,.int .i64 s.p,.int .i64 s.m,.int .u32 s.seed],.slice pa j pc] wr (P7 wr s (l.map (·.path)))):=i7 (by
    have:=ya s (l.map (·.path)) wr (S:=fun b=>A.heap.size<=b) (a:=pa) (cap:=pc) ac.o.1 (by rw[M];exact HSL.o) (by rw[M];have:=d.o.2;omega) fun x hx=>by obtain⟨y,E,rfl⟩:=List.mem_map.1 hx;exact HP.o.2.2 y E
    rw[M]at this;exact this)
   unfold P7 at X;rw[aa]at X;have an:Hid (qq s (l.map (·.path))=.tuple #[dZ F,.int .i64 k]):=aa;obtain⟨v0,v1,v2,v3,v4⟩:=ak.o wr _ f (by omega);have al:Hid (∀W,TF wr W->W.heap[w.heap.size+1]?=some (.cells #[.int .i64 0,.string ⟨#[]⟩] 46)):=fun W t=>am.o W _ (f.trans t fun _ _ z=>z.elim) (by omega)
   have ao:Hid (TF w wr):=(TV.o.tr G.o.2).comp n.o fun i hi z=>z.elim id fun z=>by have:=TV.o.size;omega
   clear af aa M f av aw HE;subst hj;go_wp2_with(go_fit X.o;rintro e w2⟨rfl,q⟩;have k0:=al.o w2 q;have f0:=j7 k0 0;have f1:=j7 k0 1;have c0:w2.cell? ⟨w.heap.size+1,0,none⟩=some (.int .i64 0):=g9 k0 0 _ rfl;have H:w2.cell? ⟨w.heap.size+1,1,none⟩=some (.string ⟨#[]⟩):=g9 k0 1 _ rfl;have kl:=i6 k0;clear k0;replace q:=i7 q);refine bodyPost_ret (v:=.tuple #[dZ F,.int .i64 k]) (by simp[results,Tryz.results142,go_sem,c0,H,kl,f0,f1]) rfl ?_;rw[HZ.o];exact⟨by rw[HP.o.1,an.o],((ao.o.tr q.o).fresh (Nat.le_succ _) _).fresh (Nat.le_succ _) _⟩
theorem BK(s:I2){w:World}{S1 S2:Nat->Prop}{X a2:Option Addr}{d1 d2:Nat}{ta c:List Ent}(I:n0 s)(ah:s.seed<4294967296)(r:H1 w S1 X d1 ta)(H:H1 w S2 a2 d2 c)(na:∀x∈ta,x.1.size<=1000000000)(nb:∀x∈c,x.1.size<=1000000000)
  (la:ta.length<=100000) (lb:c.length<=100000):CZ 177 #[J3 s,.slice X ta.length d1,.slice a2 c.length d2] w (P7 w s (diffP ta c)):=by
 obtain⟨Z,hZ⟩:=EX (P7 w s (diffP ta c));have HZ:Hid (Z=P7 w s (diffP ta c)):=hZ;rw[<-hZ];obtain⟨n,hV⟩:=EX ((w.alloc (.cells #[.int .i64 s.h,.int .i64 s.p,.int .i64 s.m,.int .u32 s.seed] 24)).alloc (.cells #[.int .i64 0,.string ⟨#[]⟩] 46));have ap:Hid (n=(w.alloc (.cells #[.int .i64 s.h,.int .i64 s.p,.int .i64 s.m,.int .u32 s.seed] 24)).alloc (.cells #[.int .i64 0,.string ⟨#[]⟩] 46)):=hV;obtain⟨f,xS,M⟩:=p8 (w:=w) (.cells #[.int .i64 s.h,.int .i64 s.p,.int .i64 s.m,.int .u32 s.seed] 24) (.cells #[.int .i64 0,.string ⟨#[]⟩] 46);rw[<-hV]at f xS M;have TV:Hid (TF w n):=f;have ak:Hid (∀(W:World)(T:Nat->Prop),d7 T n W->¬T w.heap.size->W.cell? ⟨w.heap.size,0,none⟩=some (.int .i64 s.h)∧W.cell? ⟨w.heap.size,1,none⟩=some (.int .i64 s.p)∧W.cell? ⟨w.heap.size,2,none⟩=some (.int .i64 s.m)∧W.cell? ⟨w.heap.size,3,none⟩=some (.int .u32 s.seed)∧w.heap.size<W.heap.size):=fun W T q z=>by have r:=j9 xS q z;exact⟨g9 r 0 _ rfl,g9 r 1 _ rfl,g9 r 2 _ rfl,g9 r 3 _ rfl,i6 r⟩
 have am:Hid (∀(W:World)(T:Nat->Prop),d7 T n W->¬T (w.heap.size+1)->W.heap[w.heap.size+1]?=some (.cells #[.int .i64 0,.string ⟨#[]⟩] 46)):=fun W T q z=>j9 M q z
 have af:=i6 M;have P:Hid (CZ 250 #[.slice X ta.length d1,.slice a2 c.length d2] n (eh n ta c)):=yv (r.turned f fun _ _ z=>z) (H.turned f fun _ _ z=>z) (by omega) (by omega);have R:Hid (diffP ta c=(diffC ta c).map (·.path)∧(diffC ta c).length<=200000∧∀x∈diffC ta c,x.path.size<=1000000000):=by
  refine⟨rn ta c,by have:=gC ta c;omega,fun x hx=>?_⟩;rcases diffC_path ta c x hx with⟨y,D,e⟩|⟨y,D,e⟩
  ·rw[e];exact na y D
  ·rw[e];exact nb y D
 have U:Hid (n0 s∧s.seed<4294967296∧w.heap.size+1<n.heap.size):=⟨I,ah,af⟩;unfold eh at P;generalize diffC ta c=l at *;generalize ta.length=A at *;generalize c.length=B at *;obtain⟨L,G⟩:=EX l.length;have d:Hid (L=l.length∧L<=200000):=⟨G,by rw[G];exact R.o.2.1⟩;rw[<-G]at P;clear G;clear hZ hV f xS M r H na nb la lb I ah af;go_enter func177,ntmps177;go_wp2_with fail;rw[<-ap.o];go_wp2_with(go_fit P.o;rintro e u⟨v1,rfl,hsl,q⟩;obtain⟨b1,c1,rfl,-,-⟩:=hsl.value;have E:=i7 (And.intro hsl q);clear hsl q);have B0:Hid (wN u l L (.slice none 0 0) (.int .i64 0) u):=⟨0,by have:=d.o;omega,rfl,by simpa using Sl.nil _ _ _ _,TQ⟩;go_loopg[9,10] L (fun g pv iv wr=>wN u l g pv iv wr)
 case atStart=>exact B0.o
 case round=>
  clear B0;obtain⟨j,ae,rfl,hsl,ht⟩:=hrel;have O:Hid (j+gk=l.length):=ae;have C:Hid (d7 (fun b=>u.heap.size<=b) u wr):=ht;obtain⟨pa,pc,rfl,-,-⟩:=hsl.value;have V:=i7 hsl;clear ae ht hsl;by_cases K:j<L
  ·obtain⟨x,hx⟩:∃x,l[j]?=some x:=⟨_,LB (by rw[<-d.o.1];exact K)⟩;have HX:Hid (l[j]?=some x):=hx;obtain⟨g,off,au,aj,I,-,-,ac,-,ad⟩:=E.o.1.opens (by omega);simp only[Value.slice.injEq]at aj;obtain⟨rfl,-,-⟩:=aj;obtain⟨e0,e1,e2⟩:=dcells_get hx;have ag:¬u.heap.size<=g:=by omega
   have c0:wr.cell? ⟨g,off+j*3,none⟩=some (.string x.path):=m6 (by rw[ac _ (by omega)];exact e0) C.o ag;have av:g<wr.heap.size:=LC ad C.o.size;have e3:decide ((j:Int)<(L:Int))=true:=LX (by omega);have e4:decide (j<L)=true:=LX K;obtain⟨N,xo,xn⟩:=x;dsimp only at c0;have m1:Hid (j+1<=maxLen∧(j+1)*16<=140737488355328):=i7 (by have:=d.o;simp only[maxLen];omega);clear hx ac ad e0 e1 e2 I ag;go_wp2_with(at_builtin;refine m7 rfl _ _ 84 84 rfl (V.o.turned (T:=fun _=>False) (d7.alloc (fun _=>False) wr (.cells #[.string N] 9)) (fun _ _ q=>q)) underlying84 infoS9 rfl (by decide) rfl (.slice (some ⟨wr.heap.size,0,none⟩) 1 1) rfl (G5 9 underlying84 [.string N] (by simp[Value.oneCell']) wr) m1.o.1 m1.o.2 ?_;intro v5 w5 ab ai;obtain⟨a5,c5,rfl,-,-⟩:=ab.value;have Y:=i7 (And.intro ab ai);clear ab ai);go_roundg (gk-1)
   case measure=>have:=O.o;have:=d.o;omega
   case rel=>
    have T1:TF wr (wr.alloc (.cells #[.string N] 9)):=TA;refine⟨j+1,by have:=O.o;have:=d.o;omega,by have:=d.o;simp[wrap64];omega,?_,C.o.tr (T1.comp Y.o.2 fun i hi z=>z.elim False.elim id)⟩;have e1:l.take (j+1)=l.take j++[⟨N,xo,xn⟩]:=by rw[List.take_add_one,HX.o];rfl
    rw[e1,List.map_append,List.map_append];refine Y.o.1.widen fun b H=>?_
    have h1:=C.o.size;have h2:=T1.size;rcases H with z|z
    ·exact z
    ·omega
  ·have hj:j=L:=by have:=O.o;have:=d.o.1;omega
   have HE:Hid (l.take j=l):=LQ (by have:=d.o.1;omega);rw[HE.o]at V;obtain⟨F,k,aa⟩:∃(F:AY)(k:Int),qq s (l.map (·.path))=.tuple #[dZ F,.int .i64 k]:=by
    unfold qq;split
    ·exact⟨_,_,rfl⟩
    ·exact⟨_,_,rfl⟩
   have J:(l.map (·.path)).length=j:=by rw[List.length_map];have:=d.o.1;omega
   have f:d7 (fun b=>u.heap.size<=b) n wr:=(E.o.2.mono fun _ _ z=>z.elim).tr C.o;have aq:=E.o.2.size;have ar:=U.o.2.2
   have Q:Hid (CZ 251 #[.agg #[.int .i64 s.h,.int .i64 s.p,.int .i64 s.m,.int .u32 s.seed],.slice pa j pc] wr (P7 wr s (l.map (·.path)))):=i7 (by
    have:=yo s (l.map (·.path)) wr (S:=fun b=>u.heap.size<=b) (a:=pa) (cap:=pc) U.o.1 U.o.2.1 (by rw[J];exact V.o) (by rw[J];have:=d.o.2;omega) fun x hx=>by obtain⟨y,D,rfl⟩:=List.mem_map.1 hx;exact R.o.2.2 y D
    rw[J]at this;exact this)
   unfold P7 at Q;rw[aa]at Q;have an:Hid (qq s (l.map (·.path))=.tuple #[dZ F,.int .i64 k]):=aa;obtain⟨v0,v1,v2,v3,v4⟩:=ak.o wr _ f (by omega);have al:Hid (∀W,TF wr W->W.heap[w.heap.size+1]?=some (.cells #[.int .i64 0,.string ⟨#[]⟩] 46)):=fun W t=>am.o W _ (f.trans t fun _ _ z=>z.elim) (by omega)
   have ao:Hid (TF w wr):=(TV.o.tr E.o.2).comp C.o fun i hi z=>z.elim id fun z=>by have:=TV.o.size;omega
   have e3:decide ((j:Int)<(L:Int))=false:=LD (by omega);have e4:decide (j<L)=false:=LD K;clear K aa J f aq ar HE;subst hj;go_wp2_with(go_fit Q.o;rintro e w2⟨rfl,q⟩;have k0:=al.o w2 q;have f0:=j7 k0 0;have f1:=j7 k0 1;have c0:w2.cell? ⟨w.heap.size+1,0,none⟩=some (.int .i64 0):=g9 k0 0 _ rfl;have c1:w2.cell? ⟨w.heap.size+1,1,none⟩=some (.string ⟨#[]⟩):=g9 k0 1 _ rfl;have kl:=i6 k0;clear k0;replace q:=i7 q);refine bodyPost_ret (v:=.tuple #[dZ F,.int .i64 k]) (by simp[results,Tryz.results177,go_sem,c0,c1,kl,f0,f1]) rfl ?_;rw[HZ.o];refine⟨by rw[R.o.1,an.o],?_⟩;exact((ao.o.tr q.o).fresh (Nat.le_succ _) _).fresh (Nat.le_succ _) _
end Go.Proofs.YtofcogekgcgjhaaGreatDoor
