/- Packed. -/
import Derived.Test.YtofcogekgcgjhaaGreatDoorZzar
set_option maxRecDepth 100000
set_option maxHeartbeats 8000000
namespace Go.Proofs.YtofcogekgcgjhaaGreatDoor
open Go.RowKit Go.Mine Go.Mine.Ac Go.Proofs.Tryz
def lS(w:World)(s:St)(n:Int)(e:Ending)(w':World):Prop:=∃v,e=.returned (.tuple #[v,.int .i64 ((dL s n).2:Nat)])∧Sl w' (fun b=>w.heap.size<=b) 96 2 v (o6 (dL s n).1) (dL s n).1.length∧TF w w'
theorem M6.at {w:World} {rs:Nat->Nat} {e:Value} {l:List (List Ent)} (h:M6 w rs e l) {i:Nat} {t:List Ent} (d:l[i]?=some t):∃g off cap a c,e=.slice (some ⟨g,off,none⟩) l.length cap∧g<w.heap.size∧w.cell? ⟨g,off+i,none⟩=some (.slice a t.length c)∧H1 w (fun b=>rs b=4) a c t:=by obtain⟨o,m,f⟩:=h;obtain⟨a,c,h1,h3⟩:=f i t d;have n:=(LA.1 d).1;obtain⟨g,off,cap,rfl,-,-,-,j,-,k⟩:=m.opens (by omega);refine⟨g,off,cap,a,c,rfl,k,?_,h3⟩;rw[j _ (by omega)];exact h1
theorem uw{s:St}{n:Nat}{t:List Ent}(h:s.trees[n]?=some t):dL s (n:Int)=(t,0):=by unfold dL;rw[if_neg (by omega)];simp[h]
theorem uy{s:St}{n:Int}(h:n<0∨(s.trees.length:Int)<=n):dL s n=([],9):=by
 unfold dL;by_cases a:n<0
 ·rw[if_pos a]
 ·rw[if_neg a];have:s.trees[n.toNat]?=none:=List.getElem?_eq_none (by omega);rw[this]
theorem xR{w:World}{rs:Nat->Nat}{p:Nat}{K I J:Value}{s:St}(h:F4 140 w rs p K I J s)(n:Int)(S:s.trees.length<=1000000)(y:∀t∈s.trees,t.length<=1000000):CZ 104 #[pt p,.int .i64 n] w (lS w s n):=by
 obtain⟨D,i⟩:=EX (lS w s n);have r:Hid (D=lS w s n):=i;rw[<-i];have O:w.cell? ⟨p,1,none⟩=some I:=g9 h.blk 1 _ rfl;have U:=i6 h.blk;by_cases l:n<0∨(s.trees.length:Int)<=n
 ·have c:Hid (dL s n=([],9)):=uy l;obtain⟨P,H,-⟩:=h.trees;obtain⟨a,cap,rfl,-,-⟩:=H.value;generalize s.trees.length=L at *;clear h i H y;by_cases G:n<0
  ·have F:decide (n<0)=true:=LX G;clear l;go_enter func104,ntmps104;go_wp2;rw[r.o];exact⟨.slice none 0 0,by rw[c.o];rfl,by rw[c.o];exact Sl.nil _ _ _ _,TQ⟩
  ·have F:decide (n<0)=false:=LD G;have M:decide ((L:Int)<=n)=true:=LX (by omega);clear l;go_enter func104,ntmps104;go_wp2;rw[r.o];exact⟨.slice none 0 0,by rw[c.o];rfl,by rw[c.o];exact Sl.nil _ _ _ _,TQ⟩
 ·obtain⟨m,rfl⟩:∃m:Nat,n=(m:Int):=⟨n.toNat,by omega⟩;obtain⟨t,j⟩:∃t,s.trees[m]?=some t:=⟨_,LB (by omega)⟩;obtain⟨g,off,cap,a,C,rfl,T,Q,x⟩:=h.trees.at j;have c:Hid (dL s (m:Int)=(t,0)):=uw j;have V:m<s.trees.length:=by omega
  have F:decide ((m:Int)<0)=false:=LD (by omega);have M:decide ((s.trees.length:Int)<=(m:Int))=false:=LD (by omega);have R:decide (s.trees.length<=m)=false:=LD (by omega);have k:Hid (∀W,TF w W->CZ 69 #[.slice a t.length C] W fun e w'=>∃v,e=.returned v∧Sl w' (fun b=>W.heap.size<=b) 96 2 v (o6 t) t.length∧TF W w'):=fun W N=>lu (a:=a) (n:=t.length) (cap:=C) (xs:=o6 t) W (fun w' q=>lL (x.turned (N.tr q) fun _ _ z=>z)) (fun q=>by subst q;exact ry x) (by have:=y t (LI j);omega)
  have A:Hid (TF w w.drew):=TD;generalize s.trees.length=L at *;clear h i y l j x;go_enter func104,ntmps104
  go_wp2_with(first
   |(go_fit(k.o _ A.o);rintro e w2⟨v,rfl,d,f⟩;have u:Hid (Sl w2 (fun b=>w.heap.size<=b) 96 2 v (o6 t) t.length∧TF w w2):=⟨d,A.o.tr f⟩;obtain⟨B,E,rfl,-,-⟩:=d.value;clear d f k)
   |(go_fit(k.o _ TQ);rintro e w2⟨v,rfl,d,f⟩;have u:Hid (Sl w2 (fun b=>w.heap.size<=b) 96 2 v (o6 t) t.length∧TF w w2):=⟨d,f⟩;obtain⟨B,E,rfl,-,-⟩:=d.value;clear d f k))
  all_goals
   rw[r.o];exact⟨.slice B t.length E,by rw[c.o];rfl,by rw[c.o];exact u.o.1,u.o.2⟩
theorem kj(x:Nat):x% 4294967296<4294967296:=Nat.mod_lt x (by decide)
theorem p32:(2:Nat)^32=4294967296:=by decide
theorem zL(x y:Nat)(hx:x<4294967296)(a:y<4294967296):x^^^y<4294967296:=by rw[<-p32]at hx a ⊢;exact Nat.xor_lt_two_pow hx a
theorem Fd(y:Nat)(h:y<4294967296):y^^^(y>>>16)<4294967296:=zL _ _ h (Nat.lt_of_le_of_lt (Nat.shiftRight_le _ 16) h)
theorem lT(h:Nat)(b:UInt8):J6 h b=(h^^^b.toNat)*16777619% 4294967296:=by unfold J6;with_reducible rfl
theorem zM(h:Nat)(b:UInt8):J6 h b<4294967296:=by rw[lT];exact kj _
theorem Bu(h:Nat):∃z:Nat,ox h=(z% 4294967296)^^^((z% 4294967296)>>>16):=by unfold ox;exact⟨_,by with_reducible rfl⟩
theorem Bv(h:Nat):ox h<4294967296:=by obtain⟨z,e⟩:=Bu h;rw[e];exact Fd _ (kj z)
theorem iO(l:List UInt8):∀(h:Nat),h<4294967296->l.foldl J6 h<4294967296:=by
 induction l with|nil=>intro h a;exact a|cons b l c=>intro h a;rw[List.foldl_cons];exact c (J6 h b) (zM h b)
theorem EA(x k m:Nat):((x:Nat):Int)*(k:Nat)% (m:Nat)=((x*k% m:Nat):Int):=by push_cast;rfl
theorem wm(x k:Nat):((x:Nat):Int)*(k:Nat)% 4294967296=((x*k% 4294967296:Nat):Int):=EA x k 4294967296
theorem nL(f:Nat)(g:f<4294967296):∃y z:Nat,y<4294967296∧z<4294967296∧bits .xor .u32 (f:Int) ((f:Int) / 65536)=((f^^^(f / 65536):Nat):Int)∧((f^^^(f / 65536):Nat):Int)*2246822507% 4294967296=(y:Int)∧bits .xor .u32 (y:Int) ((y:Int) / 8192)=((y^^^(y / 8192):Nat):Int)∧((y^^^(y / 8192):Nat):Int)*3266489909% 4294967296=(z:Int)∧z<4294967296∧bits .xor .u32 (z:Int) ((z:Int) / 65536)=((ox f:Nat):Int):=by
 have key:∀(x n:Nat),x<4294967296->bits .xor .u32 (x:Int) ((x:Int) / (n:Nat))=((x^^^(x / n):Nat):Int):=fun x n hx=>by have:=u32_xor_nat x (x / n) hx (Nat.lt_of_le_of_lt (Nat.div_le_self x n) hx);rw[<-this];push_cast;rfl
 obtain⟨y,a⟩:=EX ((f^^^(f / 65536))*2246822507% 4294967296);obtain⟨z,b⟩:=EX ((y^^^(y / 8192))*3266489909% 4294967296);have d:y<4294967296:=by rw[a];exact kj _
 have c:z<4294967296:=by rw[b];exact kj _
 refine⟨y,z,d,c,key f 65536 g,by rw[a];exact wm _ _,key y 8192 d,by rw[b];exact wm _ _,c,?_⟩;have e:ox f=z^^^(z / 65536):=by unfold ox;simp only[Nat.shiftRight_eq_div_pow];rw[b,a]
 rw[e];exact key z 65536 c
theorem iP(seed:Nat)(path:ByteArray):eo seed path<4294967296:=Bv _
theorem lU{s:List UInt8}{j:Nat}{b:UInt8}(h:Nat)(a:s[j]?=some b):(s.take (j+1)).foldl J6 h=J6 ((s.take j).foldl J6 h) b:=by rw[List.take_add_one,a,List.foldl_append,Option.toList_some,List.foldl_cons,List.foldl_nil]
theorem jy(s:ByteArray)(j:Nat)(h:j<s.size):s.data.toList[j]?=some s[j]:=by rw[Array.getElem?_toList];exact Array.getElem?_eq_getElem h
theorem zN(s:ByteArray)(j:Nat)(h:j<s.size):(p6 s)[j]?=some s[j].toNat:=by unfold p6;rw[List.getElem?_map,jy s j h,Option.map_some]
def pf(b:World)(a:Nat)(s:ByteArray)(g:Nat)(x i:Value)(wr:World):Prop:=∃j:Nat,j+g=s.size∧i=.int .i64 j∧x=.int .u32 ((s.data.toList.take j).foldl J6 a:Nat)∧wr=b
theorem nM(seed:Nat)(s:ByteArray)(w:World)(A:seed<4294967296)(J:s.size<=1000000000):
  CZ 218 #[.int .u32 seed,.string s] w (RT (.int .u32 (eo seed s:Nat)) w):=by
 obtain⟨cap,l,Z,K,u,Y,C,-,-⟩:=qv w s;have F:Hid (∀j x,(p6 s)[j]?=some x->l.cell? ⟨w.heap.size,j,none⟩=some (.int .u8 (x:Nat))):=C;have U:Hid (TF w l):=K;have W:Hid (s.size<=1000000000):=J;obtain⟨e,p⟩:=EX (2166136261^^^seed);have D:e<4294967296:=by rw[p];exact zL _ _ (by decide) A
 have R:bits .xor .u32 2166136261 (seed:Int)=(e:Int):=by have:=u32_xor_nat 2166136261 seed (by decide) A;rw[<-p]at this;exact this
 have q:Hid (e<4294967296):=D;obtain⟨r,v⟩:=EX (eo seed s);have t:Hid (r=ox (s.data.toList.foldl J6 e)):=i7 (by rw[v,p];rfl);rw[<-v];have L:Hid (pf l e s s.size (.int .i64 0) (.int .i64 0) l->False):=i7 (fun h=>by obtain⟨j,a,b,c,d⟩:=h;cases c);clear C K J A p D v L;generalize w.heap.size=n at *;go_enter func218,ntmps218;go_wp2;go_loopg[5,13] s.size (fun g x i wr=>pf l e s g x i wr)
 case atStart=>exact⟨0,Nat.zero_add _,rfl,by rw[List.take_zero,List.foldl_nil],rfl⟩
 case round=>
  obtain⟨j,G,rfl,rfl,rfl⟩:=hrel;have k:Hid (j+gk=s.size):=G;clear G;by_cases u:j<s.size
  ·have I:=jy s j u;have hl:=F.o j s[j].toNat (by rw[zN s j u]);have m:=iO (s.data.toList.take j) e q.o;have N:Hid ((s.data.toList.take (j+1)).foldl J6 e=J6 ((s.data.toList.take j).foldl J6 e) s[j]):=lU e I;have O:Hid (wrap64 ((j:Int)+1)=((j+1:Nat):Int)):=i7 (by have:=W.o;have:=k.o;simp[wrap64];omega);clear I;generalize(s.data.toList.take j).foldl J6 e=f at *;have Q:s[j].toNat<4294967296:=by have:=s[j].toNat_lt;omega
   have hx:bits .xor .u32 (f:Int) (s[j].toNat:Int)=((f^^^s[j].toNat:Nat):Int):=u32_xor_nat f s[j].toNat m Q;have H:((f^^^s[j].toNat:Nat):Int)*16777619% 4294967296=((J6 f s[j]:Nat):Int):=by rw[lT];exact wm _ _
   have M:Hid (((f^^^s[j].toNat:Nat):Int)*16777619% 4294967296=((J6 f s[j]:Nat):Int)):=H;clear H;go_wp2;go_roundg (gk-1)
   case measure=>have:=k.o;omega
   case rel=>exact⟨j+1,by have:=k.o;omega,by rw[O.o],by rw[N.o,M.o],rfl⟩
  ·have E:j=s.size:=by have:=k.o;omega
   have B:Hid (s.data.toList.take j=s.data.toList):=LQ (by rw[E];exact Nat.le_of_eq rfl);rw[B.o];have m:=iO s.data.toList e q.o;have t:=t;generalize s.data.toList.foldl J6 e=f at *;obtain⟨y,z,S,T,b1,b2,b3,V,X,P⟩:=nL f m;rw[<-t.o]at P;clear B q m k;subst E;go_wp2;go_ret;exact⟨rfl,U.o⟩
def dY(w:World)(l:List Int)(e:Ending)(w':World):Prop:=∃v,e=.returned v∧Sl w' (fun b=>w.heap.size<=b) 3 1 v (l.map fun x=>Value.int .i64 x) l.length∧TF w w'
def E3(l:List Nat):List Int:=l.map fun(x:Nat)=>(x:Int)
theorem dO{s:I2}{path:ByteArray}{n:Nat}(h:¬(n0 s∧1<=n∧n<=4294967295)):o0 s path n=[]:=by unfold o0;rw[if_neg h]
theorem iQ{s:I2}{path:ByteArray}{n:Nat}(h:n0 s∧1<=n∧n<=4294967295):o0 s path n=(List.range s.h.toNat).map (G4 s path n):=by unfold o0;rw[if_pos h]
theorem EB(x k m:Nat):((x:Nat):Int)+(k:Nat)=((x+k:Nat):Int)∧(((x:Nat):Int)+(k:Nat))% (m:Nat)=(((x+k)% m:Nat):Int):=⟨by push_cast;rfl,by push_cast;rfl⟩
theorem DT(x k m:Nat):(((x% m:Nat):Int)+(k:Nat))% (m:Nat)=(((x+k)% m:Nat):Int):=by push_cast;rw[Int.emod_add_emod]
def Cz(w a:World)(s:I2)(path:ByteArray)(n c st d:Nat)(g:Nat)(e h f:Value)(wr:World):Prop:=∃j:Nat,j+g=d∧f=.int .i64 j∧e=.int .u32 (((c+j*st)% 4294967296:Nat):Int)∧Sl wr (fun b=>a.heap.size<=b) 3 1 h ((E3 ((List.range j).map (G4 s path n))).map fun x=>Value.int .i64 x) j∧d7 (fun b=>a.heap.size<=b) a wr
theorem km(s:I2)(path:ByteArray)(n:Nat)(w:World)(J:s.seed<4294967296)(C:path.size<=1000000000)(O:n<=4611686018427387904):
  CZ 130 #[J3 s,.string path,.int .i64 n] w (dY w (E3 (o0 s path n))):=by
 obtain⟨Z,A⟩:=EX (dY w (E3 (o0 s path n)));have M:Hid (Z=dY w (E3 (o0 s path n))):=A;rw[<-A];obtain⟨c,u⟩:=EX (w.alloc (.cells #[.int .i64 s.h,.int .i64 s.p,.int .i64 s.m,.int .u32 s.seed] 24));have L:Hid (c=w.alloc (.cells #[.int .i64 s.h,.int .i64 s.p,.int .i64 s.m,.int .u32 s.seed] 24)):=u;have K:TF w c:=by rw[u];exact TA
 have D:c.heap[w.heap.size]?=some (.cells #[.int .i64 s.h,.int .i64 s.p,.int .i64 s.m,.int .u32 s.seed] 24):=by rw[u];exact i8 _ _
 have v:Hid (TF w c):=K;have T:Hid (∀W,d7 (fun b=>c.heap.size<=b) c W->W.cell? ⟨w.heap.size,0,none⟩=some (.int .i64 s.h)∧W.cell? ⟨w.heap.size,1,none⟩=some (.int .i64 s.p)∧W.cell? ⟨w.heap.size,2,none⟩=some (.int .i64 s.m)∧W.cell? ⟨w.heap.size,3,none⟩=some (.int .u32 s.seed)∧w.heap.size<W.heap.size):=fun W q=>by have k:=j9 D q (fun z=>by have:=i6 D;omega);exact⟨g9 k 0 _ rfl,g9 k 1 _ rfl,g9 k 2 _ rfl,g9 k 3 _ rfl,i6 k⟩
 have S:Hid (∀W,TF c W->W.cell? ⟨w.heap.size,0,none⟩=some (.int .i64 s.h)∧W.cell? ⟨w.heap.size,1,none⟩=some (.int .i64 s.p)∧W.cell? ⟨w.heap.size,2,none⟩=some (.int .i64 s.m)∧W.cell? ⟨w.heap.size,3,none⟩=some (.int .u32 s.seed)∧w.heap.size<W.heap.size):=fun W q=>T.o W (q.mono fun _ _ z=>z.elim)
 obtain⟨v0,v1,v2,v3,v4⟩:=S.o c TQ;have I:=ij s c;have t:Hid (CZ 131 #[.agg #[.int .i64 s.h,.int .i64 s.p,.int .i64 s.m,.int .u32 s.seed]] c (RT (.int .i64 (if n0 s then 0 else 1)) c)):=I;by_cases l:n0 s
 ·rw[if_pos l]at t;by_cases h1:n<1
  ·have r:Hid (o0 s path n=[]):=dO fun q=>by omega
   have d1:decide ((n:Int)<1)=true:=by simp;omega
   have d2:decide (n<1)=true:=by simp;omega
   have d3:decide (n=0)=true:=by simp;omega
   clear A u K D I l J C O h1;go_enter func130,ntmps130;go_wp2_with fail;rw[<-L.o];go_wp2_with(go_fit t.o;rintro e Q⟨rfl,q⟩;replace q:=i7 q);rw[M.o];exact⟨.slice none 0 0,rfl,by rw[r.o];exact Sl.nil _ _ _ _,v.o.tr q.o⟩
  ·by_cases h2:4294967295<n
   ·have r:Hid (o0 s path n=[]):=dO fun q=>by omega
    have d1:decide ((n:Int)<1)=false:=by simp;omega
    have d2:decide (n<1)=false:=by simp;omega
    have d4:decide ((4294967295:Int)<(n:Int))=true:=by simp;omega
    have d5:decide (4294967295<n)=true:=by simp;omega
    clear A u K D I l J C O h1 h2;go_enter func130,ntmps130;go_wp2_with fail;rw[<-L.o];go_wp2_with(go_fit t.o;rintro e Q⟨rfl,q⟩;replace q:=i7 q);rw[M.o];exact⟨.slice none 0 0,rfl,by rw[r.o];exact Sl.nil _ _ _ _,v.o.tr q.o⟩
   ·have r:Hid (o0 s path n=(List.range s.h.toNat).map (G4 s path n)):=iQ ⟨l,by omega,by omega⟩;have d1:decide ((n:Int)<1)=false:=by simp;omega
    have d2:decide (n<1)=false:=by simp;omega
    have d4:decide ((4294967295:Int)<(n:Int))=false:=by simp;omega
    have d5:decide (4294967295<n)=false:=by simp;omega
    obtain⟨d,F⟩:=EX (eo s.seed path);obtain⟨B,G⟩:=EX (eo ((s.seed+1)% 4294967296) path);have lA:d<4294967296:=by rw[F];exact iP _ _
    have lB:B<4294967296:=by rw[G];exact iP _ _
    have U:Hid (∀W,TF c W->CZ 218 #[.int .u32 s.seed,.string path] W (RT (.int .u32 d) c)):=fun W q=>by rw[F];exact(nM s.seed path W J C).mono fun e w'⟨x,y⟩=>⟨x,q.tr y⟩
    obtain⟨ad,P⟩:=EX ((s.seed+1)% 4294967296);have an:((s.seed:Nat):Int)+1=((s.seed+1:Nat):Int):=by push_cast;rfl
    have af:(((s.seed:Nat):Int)+1)% 4294967296=(ad:Nat):=by rw[P];exact(EB s.seed 1 4294967296).2
    have ag:IntKind.u32.wrap (((s.seed:Nat):Int)+1)=(ad:Nat):=by rw[IntKind.wrap_u32];exact af
    have V:Hid (∀W,TF c W->CZ 218 #[.int .u32 (IntKind.u32.wrap (((s.seed:Nat):Int)+1)),.string path] W (RT (.int .u32 B) c)):=fun W q=>by rw[G,<-P,ag];exact(nM ad path W (by rw[P];exact kj _) C).mono fun e w'⟨x,y⟩=>⟨x,q.tr y⟩
    have am:bits .or .u32 (B:Int) 1=((B |||1:Nat):Int):=u32_or_nat B 1 lB (by decide);obtain⟨f,H⟩:∃f:Nat,s.h=(f:Int):=⟨s.h.toNat,by have:=l.1;omega⟩;have E:Hid (f<=16∧s.h=(f:Int)):=⟨by have:=l.2.1;omega,H⟩;have ST:Hid (∀W,TF c W->Cz w c s path n d (B |||1) f f (.int .u32 d) (.slice none 0 0) (.int .i64 0) W):=fun W q=>⟨0,Nat.zero_add _,rfl,by rw[Nat.zero_mul,Nat.add_zero,Nat.mod_eq_of_lt lA],Sl.nil _ _ _ _,q.mono fun _ _ z=>z.elim⟩
    have ak:Hid (∀j:Nat,(((d+j*(B |||1))% 4294967296:Nat):Int)% (n:Int)=((G4 s path n j:Nat):Int)∧((((d+j*(B |||1))% 4294967296:Nat):Int)+((B |||1:Nat):Int))% 4294967296=(((d+(j+1)*(B |||1))% 4294967296:Nat):Int)∧G4 s path n j<4294967296):=fun j=>by
     refine⟨?_,?_,?_⟩
     ·rw[F,G];exact(Int.natCast_emod _ _).symm
     ·rw[show(d+(j+1)*(B |||1))=d+j*(B |||1)+(B |||1)by rw[Nat.add_mul,Nat.one_mul,Nat.add_assoc]];exact DT _ _ 4294967296
     ·exact Nat.lt_of_le_of_lt (Nat.mod_le _ _) (kj _)
    have X:Hid ((n:Int)% 4294967296=(n:Int)∧((n:Int)==0)=false∧¬(n:Int)=0):=⟨by omega,by simp;omega,by omega⟩;have ao:Hid (d=eo s.seed path∧B=eo ((s.seed+1)% 4294967296) path):=⟨F,G⟩;clear H an af ag P F G A u K D I J C O h1 h2 lA lB;go_enter func130,ntmps130;go_wp2_with fail;rw[<-L.o];go_wp2_with(go_fit t.o;rintro e Q⟨rfl,q⟩;obtain⟨c0,c1,c2,c3,c4⟩:=S.o Q q;replace q:=i7 q);go_region_law ((go_simp;go_at_call 218;(first|(with_reducible refine(U.o _ q.o).mono ?_)|(with_reducible refine(U.o _ q.o.draw).mono ?_)|(with_reducible refine(V.o _ q.o).mono ?_)|(with_reducible refine(V.o _ q.o.draw).mono ?_));rintro e wx⟨rfl,qx⟩;obtain⟨c0,c1,c2,c3,c4⟩:=S.o wx qx;clear q;have q:=i7 qx;clear qx))
    all_goals go_wp2
    all_goals
     clear U V t d1 d2 d4 d5 v0 v1 v2 v3 v4 am;have H:=E.o.2;rw[H];clear H;go_loopg[7,9,33] f (fun g av lv iv wr=>Cz w c s path n d (B |||1) f g av lv iv wr)
     case atStart=>exact ST.o wx q.o
     case round=>
      obtain⟨j,ae,rfl,rfl,ab,ht⟩:=hrel;have R:Hid (j+gk=f):=ae;have N:Hid (d7 (fun b=>c.heap.size<=b) c wr):=ht;obtain⟨la,lc,rfl,-,-⟩:=ab.value;have SL:Hid (Sl wr (fun b=>c.heap.size<=b) 3 1 (.slice la j lc) ((E3 ((List.range j).map (G4 s path n))).map fun x=>Value.int .i64 x) j):=ab;clear ae ab ht;by_cases aa:j<f
      ·obtain⟨k1,k2,k3,k4,k5⟩:=T.o wr N.o;have HW:Hid (wrap64 ((j:Int)+1)=((j+1:Nat):Int)):=i7 (by have:=E.o;simp[wrap64];omega);obtain⟨e1,e2,e3⟩:=ak.o j;have ap:=X.o.1;have aq:=X.o.2.1;have ar:=X.o.2.2;have hd:decide (j<f)=true:=LX aa;have m1:Hid (j+1<=maxLen∧(j+1)*8<=140737488355328):=i7 (by have:=E.o;simp only[maxLen];omega);have HP:Hid (G4 s path n j<4294967296):=e3;have aj:Hid ((E3 ((List.range (j+1)).map (G4 s path n))).map (fun x=>Value.int .i64 x)=(E3 ((List.range j).map (G4 s path n))).map (fun x=>Value.int .i64 x)++[Value.int .i64 (G4 s path n j:Nat)]):=i7 (by rw[List.range_succ];simp[E3]);obtain⟨x,hx⟩:=EX (G4 s path n j);have HX:Hid (x=G4 s path n j):=hx;rw[<-hx]at e1;have au:wrap64 (x:Int)=(x:Int):=by rw[<-hx]at e3;simp only[wrap64];omega
       clear hx e3;obtain⟨a2,ha2⟩:=EX ((d+(j+1)*(B |||1))% 4294967296);have ai:Hid (a2=(d+(j+1)*(B |||1))% 4294967296):=ha2;rw[<-ha2]at e2;clear ha2;generalize(d+j*(B |||1))% 4294967296=a at *;go_wp2_with(at_builtin;refine m7 rfl _ _ 41 41 rfl (SL.o.turned (d7.alloc (fun _=>False) _ _) fun _ _ q=>q) underlying41 infoC3 rfl (by decide) rfl (.slice (some ⟨wr.heap.size,0,none⟩) 1 1) rfl (R6 underlying41 (.int .i64 (x:Nat)) rfl wr) m1.o.1 m1.o.2 ?_;intro v5 w5 ac ah;obtain⟨a5,c5,rfl,-,-⟩:=ac.value;have Y:Hid (d7 (fun b=>c.heap.size<=b) c w5):=(N.o.new _).tr ah;obtain⟨k1,k2,k3,k4,k5⟩:=T.o w5 Y.o;have YS:=i7 ac;clear ac ah);go_roundg (gk-1)
       case measure=>have:=R.o;omega
       case rel=>
        refine⟨j+1,by have:=R.o;omega,by rw[HW.o],by rw[e2,ai.o],?_,Y.o⟩;rw[aj.o,<-HX.o];refine YS.o.widen fun b k=>?_
        rcases k with k|k
        ·exact k
        ·have h1:=N.o.size;have h2:(wr.alloc (Obj.cells #[Value.int IntKind.i64 (x:Nat)] 3)).heap.size=wr.heap.size+1:=by simp
         omega
      ·have hj:j=f:=by have:=R.o;omega
       have hd:decide (j<f)=false:=LD aa;have HJ:Hid (j=f):=hj;clear hj aa;go_wp2;rw[M.o];have hl:(o0 s path n).length=j:=by rw[r.o,List.length_map,List.length_range,E.o.2,HJ.o];rfl
       refine⟨.slice la j lc,rfl,?_,?_⟩
       ·have al:(E3 (o0 s path n)).length=j:=by unfold E3;rw[List.length_map];exact hl
        rw[al];have hr:(List.range j).map (G4 s path n)=o0 s path n:=by rw[r.o,E.o.2,HJ.o];rfl
        rw[<-hr];exact SL.o.widen fun b k=>by have:=v.o.size;omega
       ·exact v.o.comp N.o fun i hi z=>z.elim id fun z=>by have:=v.o.size;omega
 ·rw[if_neg l]at t;have r:Hid (o0 s path n=[]):=dO fun q=>l q.1
  clear A u K D I l J C O;go_enter func130,ntmps130;go_wp2_with fail;rw[<-L.o];go_wp2_with(go_fit t.o;rintro e Q⟨rfl,q⟩;replace q:=i7 q);rw[M.o];exact⟨.slice none 0 0,rfl,by rw[r.o];exact Sl.nil _ _ _ _,v.o.tr q.o⟩
end Go.Proofs.YtofcogekgcgjhaaGreatDoor
namespace Go.Proofs.YtofcogekgcgjhaaGreatDoor
open Go.RowKit Go.Mine Go.Mine.Ac Go.Proofs.Tryz
open Classical
noncomputable def jz(l:List ByteArray):Value->Option Value
 | .string s=>if s∈l then some (.agg #[])else none
 |_=>none
theorem nN(l:List ByteArray)(p:ByteArray)(k:Value):jz (l++[p]) k=if k=.string p then some (.agg #[])else jz l k:=by
 cases k with
 |string s=>
  simp only[jz,List.mem_append,List.mem_singleton,Value.string.injEq];by_cases h:s=p
  ·rw[if_pos (.inr h),if_pos h]
  ·rw[if_neg h];by_cases h2:s∈l
   ·rw[if_pos (.inl h2),if_pos h2]
   ·rw[if_neg (fun q=>q.elim h2 h),if_neg h2]
 |_=>rw[if_neg (by simp)];rfl
theorem gV(l:List ByteArray)(p:ByteArray):(once (l++[p])).length=if p∈l then(once l).length else(once l).length+1:=by
 by_cases h:p∈l
 ·rw[if_pos h];exact iE (once_nodup l) fun x=>by rw[once_mem,List.mem_append,List.mem_singleton];exact⟨.inl,fun q=>q.elim id fun e=>e▸h⟩
 ·rw[if_neg h];have:(once (l++[p])).length=(once l++[p]).length:=iE (by rw[List.nodup_append];refine⟨once_nodup l,by simp,?_⟩;intro a d b c;rw[List.mem_singleton]at c;subst c;rintro rfl;exact h (once_mem.1 d)) fun x=>by rw[List.mem_append,once_mem,List.mem_append]
  rw[this,List.length_append];rfl
theorem xT(l:List ByteArray)(p:ByteArray):(jz l (.string p)).isSome=decide (p∈l):=by
 simp only[jz];by_cases h:p∈l
 ·simp[h]
 ·simp[h]
theorem zO{w:World}{b n:Nat}{l:List ByteArray}(h:z8 KStr w b (jz l) n){d:Array MapEntry}{i:Nat}(p:w.heap[b]?=some (.map d i)):
  (d.toList.map (·.key)).Perm ((once l).map Value.string)∧∀e∈d.toList,∃s,e.key=.string s:=by
 obtain⟨v,u,h1,h2,h3,h4,o,x⟩:=h;rw[p]at h1;simp only[Option.some.injEq,Obj.map.injEq]at h1;obtain⟨rfl,rfl⟩:=h1;have c:∀e∈d.toList,∃s,e.key=.string s∧s∈l:=by
  intro e c;have:=h3 e c;cases g:e.key with
  |string s=>
   rw[g]at this;simp only[jz]at this;split at this
   ·exact⟨s,rfl,by assumption⟩
   ·simp at this
  |_=>rw[g]at this;simp[jz]at this
 refine⟨?_,fun e q=>by obtain⟨s,a,-⟩:=c e q;exact⟨s,a⟩⟩;have n1:(d.toList.map (·.key)).Nodup:=by rw[List.nodup_iff_pairwise_ne,List.pairwise_map];exact o
 have n2:((once l).map Value.string).Nodup:=gA _ (fun a b q=>by injection q) (once_nodup l);rw[List.perm_ext_iff_of_nodup n1 n2];intro k;constructor
 ·intro f;obtain⟨e,r,rfl⟩:=List.mem_map.1 f;obtain⟨s,j,m⟩:=c e r;rw[j];exact List.mem_map.2 ⟨s,once_mem.2 m,rfl⟩
 ·intro f;obtain⟨s,t,rfl⟩:=List.mem_map.1 f;obtain⟨e,c,f⟩:=h4 (.string s) (.agg #[]) (by simp only[jz];rw[if_pos (once_mem.1 t)]);exact List.mem_map.2 ⟨e,c,f⟩
def F1(n:Nat)(P:Nat->Bool):List UInt8:=(dm n P).map UInt8.ofNat
theorem dp(n:Nat)(P:Nat->Bool):(F1 n P).length=n:=by simp[F1,eS]
theorem lW{n j:Nat}(P:Nat->Bool)(h:j<n):(F1 n P)[j]?=some (UInt8.ofNat (X2 P j)):=by unfold F1;rw[List.getElem?_map,ii P h];rfl
theorem uz{n a:Nat}(P:Nat->Bool)(h:a<8*n):(F1 n P).set (a / 8) (UInt8.ofNat (X2 P (a / 8) |||2^(a% 8)))=F1 n (fun i=>P i ||i==a):=by unfold F1;rw[<-ug P h,List.map_set]
theorem rJ(n:Nat):F1 n (fun _=>false)=List.replicate n 0:=by unfold F1;rw[rj,List.map_replicate];rfl
theorem zP(n:Nat)(P:Nat->Bool):vW n P=⟨(F1 n P).toArray⟩:=rk n P
def dF(s:I2)(n:Nat)(l:List ByteArray)(i:Nat):Bool:=l.any fun x=>decide (i∈o0 s x n)
def iR(s:I2)(n:Nat)(l:List ByteArray)(pl:List Nat)(i:Nat):Bool:=dF s n l i ||pl.any (fun x=>i==x)
theorem nO(s:I2)(n:Nat)(l:List ByteArray)(pl:List Nat)(a:Nat):(fun i=>iR s n l pl i ||i==a)=iR s n l (pl++[a]):=by funext i;simp[iR,Bool.or_assoc]
theorem rK(s:I2)(n:Nat)(l:List ByteArray)(p:ByteArray):iR s n l (o0 s p n)=dF s n (l++[p]):=by
 funext i;simp only[iR,dF,List.any_append,List.any_cons,List.any_nil,Bool.or_false];congr 1;rw[Bool.eq_iff_iff,List.any_eq_true,decide_eq_true_eq];constructor
 ·rintro⟨x,hx,e⟩;rw[beq_iff_eq]at e;exact e▸hx
 ·exact fun h=>⟨i,h,by simp⟩
theorem nP(s:I2)(n:Nat):dF s n []=fun _=>false:=rfl
theorem nQ(s:I2)(n:Nat)(l:List ByteArray):iR s n l []=dF s n l:=by funext i;simp[iR]
theorem nR{s:I2}{n:Nat}{l m:List ByteArray}(h:l.Perm m):dF s n l=dF s n m:=by funext i;unfold dF;rw[Bool.eq_iff_iff,List.any_eq_true,List.any_eq_true];exact⟨fun⟨x,hx,e⟩=>⟨x,h.mem_iff.1 hx,e⟩,fun⟨x,hx,e⟩=>⟨x,h.mem_iff.2 hx,e⟩⟩
theorem lX{s:I2}{p:ByteArray}{n x:Nat}(h:x∈o0 s p n):x<n:=by
 unfold o0 at h;split at h
 ·rename_i q;obtain⟨i,-,rfl⟩:=List.mem_map.1 h;exact Nat.mod_lt _ (by omega)
 ·simp at h
theorem kp(s:I2)(p:ByteArray)(n:Nat):(o0 s p n).length<=16:=by
 unfold o0;split
 ·rename_i q;rw[List.length_map,List.length_range];have:=q.1.2.1;omega
 ·simp
theorem Y3{s:I2}{l:List ByteArray}(h:s.m.toNat<(once l).length):H3 s l=⟨2,⟨#[]⟩⟩:=by unfold H3;simp only[];rw[if_pos h]
theorem Y7{s:I2}{l:List ByteArray}(h:¬s.m.toNat<(once l).length):H3 s l=⟨1,⟨(F1 (ep s (once l).length) (dF s (8*ep s (once l).length) (once l))).toArray⟩⟩:=by unfold H3;simp only[];rw[if_neg h,zP];rfl
end Go.Proofs.YtofcogekgcgjhaaGreatDoor
namespace Go.Proofs.YtofcogekgcgjhaaGreatDoor
open Go.RowKit Go.Mine Go.Mine.Ac Go.Proofs.Tryz
theorem fV(s:I2)(w:World):CZ 196 #[J3 s] w (RT (.int .i64 (if n0 s then 0 else 1)) w):=by
 have e:((dN s.h s.p s.m:Nat):Int)=if n0 s then 0 else 1:=by unfold dN;split;exact(if_pos ‹_›).symm;exact(if_neg ‹_›).symm
 rw[<-e];exact gR s.h s.p s.m s.seed w
theorem nS(seed:Nat)(s:ByteArray)(n:World)(m:seed<4294967296)(A:s.size<=1000000000):
  CZ 325 #[.int .u32 seed,.string s] n fun e w'=>e=.returned (.int .u32 (eo seed s:Nat))∧w'=n:=by
 have W:Hid (s.size<=1000000000):=A;obtain⟨a,d⟩:=EX (2166136261^^^seed);have q:a<4294967296:=by rw[d];exact zL _ _ (by decide) m
 have G:bits .xor .u32 2166136261 (seed:Int)=(a:Int):=by have:=u32_xor_nat 2166136261 seed (by decide) m;rw[<-d]at this;exact this
 have h:Hid (a<4294967296):=q;obtain⟨r,l⟩:=EX (eo seed s);have k:Hid (r=ox (s.data.toList.foldl J6 a)):=i7 (by rw[l,d];rfl);rw[<-l];clear A m d q l;go_enter func325,ntmps325;go_wp2;go_loopg[5,6] s.size (fun g x i wr=>pf n a s g x i wr)
 case atStart=>exact⟨0,Nat.zero_add _,rfl,by rw[List.take_zero,List.foldl_nil],rfl⟩
 case round=>
  obtain⟨j,u,rfl,rfl,rfl⟩:=hrel;have b:Hid (j+gk=s.size):=u;clear u;by_cases F:j<s.size
  ·have w:=jy s j F;have c:=iO (s.data.toList.take j) a h.o;have N:Hid ((s.data.toList.take (j+1)).foldl J6 a=J6 ((s.data.toList.take j).foldl J6 a) s[j]):=lU a w;have C:Hid (wrap64 ((j:Int)+1)=((j+1:Nat):Int)):=i7 (by have:=W.o;have:=b.o;simp[wrap64];omega);clear w;generalize(s.data.toList.take j).foldl J6 a=f at *;have E:s[j].toNat<4294967296:=by have:=s[j].toNat_lt;omega
   have L:(s[j].toNat:Int)% 4294967296=(s[j].toNat:Int):=by omega
   have hx:bits .xor .u32 (f:Int) (s[j].toNat:Int)=((f^^^s[j].toNat:Nat):Int):=u32_xor_nat f s[j].toNat c E;have v:((f^^^s[j].toNat:Nat):Int)*16777619% 4294967296=((J6 f s[j]:Nat):Int):=by rw[lT];exact wm _ _
   have B:Hid (((f^^^s[j].toNat:Nat):Int)*16777619% 4294967296=((J6 f s[j]:Nat):Int)):=v;clear v;go_wp2;go_roundg (gk-1)
   case measure=>have:=b.o;omega
   case rel=>exact⟨j+1,by have:=b.o;omega,by rw[C.o],by rw[N.o,B.o],rfl⟩
  ·have t:j=s.size:=by have:=b.o;omega
   have p:Hid (s.data.toList.take j=s.data.toList):=LQ (by rw[t];exact Nat.le_of_eq rfl);rw[p.o];have c:=iO s.data.toList a h.o;have k:=k;generalize s.data.toList.foldl J6 a=f at *;obtain⟨y,z,H,I,b1,b2,b3,J,K,D⟩:=nL f c;rw[<-k.o]at D;clear p h c b;subst t;go_wp2;go_ret;exact⟨rfl,rfl⟩
theorem uA(a b:ByteArray)(w:World)(s:a.size<=1000000000)(t:b.size<=1000000000):CZ 246 #[.string a,.string b] w (RT (.int .i64 (L6 a b:Nat)) w):=by
 have F:Hid (a.size<=1000000000∧b.size<=1000000000):=⟨s,t⟩;obtain⟨r,l⟩:=EX (L6 a b);have k:Hid (r=L6 a b):=l;rw[<-l];obtain⟨n,B⟩:=EX a.size;have K:Hid (n=a.size):=B;have m:Hid (wj w a b n (.int .i64 0) w):=⟨0,rfl,by omega,Nat.zero_le _,TQ⟩;clear s t l B;go_enter func246,ntmps246;go_wp2;go_loopg[5] n (fun g v wr=>wj w a b g v wr)
 case atStart=>exact m.o
 case round=>
  obtain⟨i,rfl,y,A,E⟩:=hrel;have e:Hid (i+gk=a.size∧i<=L6 a b):=⟨y,A⟩;have h:Hid (TF w wr):=E;clear y A m E;by_cases j:i<a.size∧i<b.size
  ·obtain⟨h1,h2⟩:=j;have u:decide ((i:Int)<(a.size:Int))=true:=by simp;omega
   have x:decide (i<a.size)=true:=by simp;omega
   have I:decide ((i:Int)<(b.size:Int))=true:=by simp;omega
   have J:decide (i<b.size)=true:=by simp;omega
   have p:Hid (i<a.size∧i<b.size):=⟨h1,h2⟩;have C:=rz a i h1;have D:=rz b i h2;have f:Hid (a.data.toList[i]?=some a[i]∧b.data.toList[i]?=some b[i]):=⟨C,D⟩;have G:Hid (wrap64 ((i:Int)+1)=((i+1:Nat):Int)):=i7 (by have:=F.o;simp[wrap64];omega);clear C D;by_cases d:a[i]=b[i]
   ·have H:((a[i].toNat:Int)==(b[i].toNat:Int))=true:=by rw[d];simp
    have c:Hid (a[i]=b[i]):=d;clear d;go_wp2;go_quiet (fail);go_wp2;rename_i nq;go_roundg (gk-1)
    case measure=>have:=e.o;have:=p.o;omega
    case rel=>exact⟨i+1,by rw[G.o],by have:=e.o;have:=p.o;omega,jW e.o.2 f.o.1 (by rw[c.o];exact f.o.2),h.o.drawN nq⟩
   ·have H:((a[i].toNat:Int)==(b[i].toNat:Int))=false:=by rw[beq_eq_false_iff_ne];intro q;exact d (UInt8.toNat_inj.1 (by omega))
    have c:Hid (L6 a b=i):=eR e.o.2 (.inr (.inr (by rw[f.o.1,f.o.2];simpa using d)));clear d;go_wp2;go_quiet (fail);go_wp2;rename_i nq;go_ret;exact⟨by rw[k.o,c.o];rfl,h.o.drawN nq⟩
  ·have c:Hid (L6 a b=i):=eR e.o.2 (by simp only[Array.length_toList];change a.size<=i∨b.size<=i∨_;omega);by_cases h1:i<a.size
   ·have h2:¬i<b.size:=fun z=>j ⟨h1,z⟩
    have u:decide ((i:Int)<(a.size:Int))=true:=by simp;omega
    have x:decide (i<a.size)=true:=by simp;omega
    have I:decide ((i:Int)<(b.size:Int))=false:=by simp;omega
    have J:decide (i<b.size)=false:=by simp;omega
    clear j h1 h2;go_wp2;go_quiet (fail);go_wp2;rename_i nq;go_ret;exact⟨by rw[k.o,c.o];rfl,h.o.drawN nq⟩
   ·have u:decide ((i:Int)<(a.size:Int))=false:=by simp;omega
    have x:decide (i<a.size)=false:=by simp;omega
    clear j h1;go_wp2;go_quiet (fail);go_wp2;rename_i nq;go_ret;exact⟨by rw[k.o,c.o];rfl,h.o.drawN nq⟩
def U8(o:Option ByteArray)(x:Ent):Nat:=if 255<x.1.size then 5 else if x.2=0 then 1 else match o with|none=>0|some p=>if x.1=p then 11 else if ei x.1 p then 10 else 0
theorem pg(o:Option ByteArray)(x:Ent)(l:List Ent):checkT o (x::l)=if U8 o x=0 then checkT (some x.1) l else U8 o x:=by
 rw[checkT.eq_def];unfold U8;simp only;by_cases h1:255<x.1.size
 ·simp[h1]
 by_cases h2:x.2=0
 ·simp[h1,h2]
 cases o with
 |none=>simp[h1,h2]
 |some p=>
  simp only[h1,h2,if_false];by_cases h3:x.1=p
  ·simp[h3]
  by_cases h4:ei x.1 p=true
  ·simp[h3,h4]
  ·simp[h3,h4]
theorem uB{S:Nat->Prop}{a:Option Addr}{cap:Nat}{t:List Ent}(w:World)(h:H1 w S a cap t)(O:t.length<=1000000000){i:Nat}{x:Ent}(hx:t[i]?=some x):CZ 311 #[.slice a t.length cap,.int .i64 i] w (RT (.int .i64 (U8 (N6 t i) x:Nat)) w):=by
 obtain⟨r,C⟩:=EX (U8 (N6 t i) x);have u:Hid (r=U8 (N6 t i) x):=C;rw[<-C];have e:i<t.length:=(LA.1 hx).1;obtain⟨g,off,rfl,-,U,P,Q⟩:=cT h i x hx;obtain⟨n,F⟩:=EX t.length;have V:i<n:=by omega
 rw[<-F];have D:Hid (∀k,k+1=i->∃q c,t[k]?=some (q,c)∧w.cell? ⟨g,off+k*2,none⟩=some (.string q)∧k<n∧wrap64 ((i:Int)-1)=(k:Int)):=fun k B=>by obtain⟨y,l⟩:∃y,t[k]?=some y:=⟨_,LB (by omega)⟩;obtain⟨T,X,G,-,-,A,d1⟩:=cT h k y l;simp only[Option.some.injEq,Addr.mk.injEq,and_true]at G;obtain⟨rfl,rfl⟩:=G;exact⟨y.1,y.2,l,by first|exact A|simpa using A,by omega,by simp[wrap64];omega⟩
 obtain⟨p,b⟩:=x;clear C h hx O F e;go_enter func311,ntmps311;by_cases d:255<p.size
 ·have I:decide ((255:Int)<(p.size:Int))=true:=LX (by omega);have J:decide (255<p.size)=true:=LX (by omega);have f:Hid (255<p.size):=d;clear d;go_wp2;go_ret;exact⟨by rw[u.o];unfold U8;rw[if_pos f.o];rfl,TQ⟩
 have I:decide ((255:Int)<(p.size:Int))=false:=LD (by omega);have J:decide (255<p.size)=false:=LD (by omega);have f:Hid (¬255<p.size):=d;clear d;by_cases j:b=0
 ·have K:((b:Int)==0)=true:=by simp[j]
  have m:Hid (b=0):=j;clear j;go_wp2;go_ret;exact⟨by rw[u.o];unfold U8;rw[if_neg f.o,if_pos m.o];rfl,TQ⟩
 have K:((b:Int)==0)=false:=by simp;omega
 have m:Hid (b≠0):=j;clear j;by_cases e:i=0
 ·have L:decide ((0:Int)<(i:Int))=false:=LD (by omega);have M:decide (0<i)=false:=LD (by omega);have H:Hid (i=0):=e;clear e;go_wp2;go_quiet (fail);go_wp2;go_quiet (fail);go_wp2;go_ret;exact⟨by rw[u.o];unfold U8;rw[if_neg f.o,if_neg m.o,H.o];rfl,by first|exact TQ|exact TQ.drawN _|exact(TQ.drawN _).drawN _⟩
 obtain⟨k,B⟩:∃k,k+1=i:=⟨i-1,by omega⟩;obtain⟨q,c,l,A,W,R⟩:=D.o k B;have L:decide ((0:Int)<(i:Int))=true:=LX (by omega);have M:decide (0<i)=true:=LX (by omega);have z:Hid (r=if p=q then 11 else if ei p q then 10 else 0):=i7 (by rw[u.o];unfold U8 N6;rw[if_neg f.o,if_neg m.o,if_neg e,show i-1=k by omega,l];rfl);clear e l B D;by_cases d:p=q
 ·have N:(p.toList==q.toList)=true:=iM d;have s:Hid (p=q):=d;clear d;go_wp2;go_quiet (fail);go_wp2;go_ret;exact⟨by rw[z.o,if_pos s.o];rfl,by first|exact TQ|exact TQ.drawN _⟩
 have N:(p.toList==q.toList)=false:=eA d;have s:Hid (p≠q):=d;clear d;cases E:Op.bytesLess p.toList q.toList with
 |true=>have v:Hid (ei p q=true):=E;go_wp2;go_quiet (fail);go_wp2;go_quiet (fail);go_wp2;go_ret;exact⟨by rw[z.o,if_neg s.o,if_pos v.o];rfl,by first|exact TQ|exact TQ.drawN _|exact(TQ.drawN _).drawN _⟩
 |false=>have v:Hid (ei p q=false):=E;go_wp2;go_quiet (fail);go_wp2;go_quiet (fail);go_wp2;go_ret;exact⟨by rw[z.o,if_neg s.o,if_neg (by rw[v.o];decide)];rfl,by first|exact TQ|exact TQ.drawN _|exact(TQ.drawN _).drawN _⟩
theorem uC{t:List Ent}{i:Nat}{x:Ent}(h:t[i]?=some x):N6 t (i+1)=some x.1:=by simp[N6,h]
theorem kq{S:Nat->Prop}{a:Option Addr}{cap:Nat}{t:List Ent}(w:World)(h:H1 w S a cap t)(B:t.length<=1000000000):CZ 244 #[.slice a t.length cap] w (dX w t):=by
 obtain⟨D,m⟩:=EX (dX w t);have s:Hid (D=dX w t):=m;rw[<-m];have O:Hid (H1 w S a cap t):=h;obtain⟨n,j⟩:=EX t.length;have d:Hid (n=t.length∧n<=1000000000):=i7 ⟨j,by omega⟩;have H:Hid (∀wr,TF w wr->∀i x,t[i]?=some x->CZ 311 #[.slice a n cap,.int .i64 (i:Nat)] wr (RT (.int .i64 (U8 (N6 t i) x:Nat)) w)):=fun wr G i x hx=>by have:=uB wr (h.turned G fun _ _ z=>z) B hx;rw[<-j]at this;exact this.mono fun e w'⟨h1,h2⟩=>⟨h1,G.tr h2⟩
 have q:Hid (wk w t n (.int .i64 0) w):=⟨0,rfl,by omega,rfl,TQ⟩;rw[<-j];clear h B j m;go_enter func244,ntmps244;go_wp2;go_loopg[3] n (fun g v wr=>wk w t g v wr)
 case atStart=>exact q.o
 case round=>
  obtain⟨i,rfl,A,C,F⟩:=hrel;have f:Hid (i+gk=t.length∧checkT none t=checkT (N6 t i) (t.drop i)):=⟨A,C⟩;have y:Hid (TF w wr):=F;clear A C q F;by_cases E:i<n
  ·obtain⟨x,hx⟩:∃x,t[i]?=some x:=⟨_,LB (by have:=d.o.1;omega)⟩;have J:Hid (t[i]?=some x):=hx;have r:=i7 (H.o wr y.o i x hx);have c:Hid (i<n):=E;have u:Hid (checkT none t=if U8 (N6 t i) x=0 then checkT (some x.1) (t.drop (i+1))else U8 (N6 t i) x):=i7 (by rw[f.o.2,X9 hx,pg]);have I:Hid (wrap64 ((i:Int)+1)=((i+1:Nat):Int)):=i7 (by have:=c.o;have:=d.o.2;simp[wrap64];omega);have L:decide ((i:Int)<(n:Int))=true:=by simp;omega
   have M:decide (i<n)=true:=by simp;omega
   clear hx;generalize U8 (N6 t i) x=k at *;by_cases b:k=0
   ·have l:Hid (k=0):=b;have K:((k:Int)==0)=true:=by simp[b]
    clear b;go_wp2_with(go_fit r.o;rintro e N⟨rfl,p⟩);go_roundg (gk-1)
    case measure=>have:=f.o;have:=c.o;have:=d.o;omega
    case rel=>exact⟨i+1,by rw[I.o],by have:=f.o;have:=c.o;have:=d.o;omega,by rw[u.o,if_pos l.o,uC J.o],p⟩
   ·have l:Hid (¬k=0):=b;have K:((k:Int)==0)=false:=by simp[b]
    clear b;go_wp2_with(go_fit r.o;rintro e N⟨rfl,p⟩);rw[s.o];exact⟨by rw[u.o,if_neg l.o];rfl,p⟩
  ·have L:decide ((i:Int)<(n:Int))=false:=by simp;omega
   have M:decide (i<n)=false:=by simp;omega
   have c:Hid (n<=i):=i7 (by omega);clear E;go_wp2;rw[s.o];exact⟨by rw[f.o.2,List.drop_eq_nil_of_le (by have:=d.o;have:=c.o;omega),checkT];rfl,y.o⟩
def Bw(w:World)(a:Option Addr)(cap:Nat)(l:List ByteArray):Prop:=l.length<=1000000000∧(0<l.length->∃b off,a=some ⟨b,off,none⟩∧b<w.heap.size∧∀(i:Nat)x,l[i]?=some x->w.cell? ⟨b,off+i,none⟩=some (.string x))
theorem zQ{w:World}{S:Nat->Prop}{v:Value}{l:List ByteArray}(h:Sl w S 9 1 v (l.map Value.string) l.length)(d:l.length<=1000000000):∃a cap,v=.slice a l.length cap∧Bw w a cap l:=by obtain⟨a,cap,rfl,-,-⟩:=h.value;refine⟨a,cap,rfl,d,fun e=>?_⟩;obtain⟨g,off,j,f,h1,h2,h3,h4,n,c⟩:=h.opens e;injection f with b k m;refine⟨g,off,b,c,fun i x hx=>?_⟩;have o:i<l.length:=(LA.1 hx).1;rw[h4 i (by omega),List.getElem?_map,hx];rfl
def CA(w:World)(l1 l2:List ByteArray)(g:Nat)(a:Value)(wr:World):Prop:=∃i:Nat,a=.int .i64 i∧i+g=l1.length∧l1.take i=l2.take i∧TF w wr
theorem gW{w:World}{R T:Nat->Prop}{C D:Option Addr}{E F:Nat}{l1 l2:List ByteArray}(h1:Sl w R 9 1 (.slice C l1.length E) (l1.map Value.string) l1.length)(h2:Sl w T 9 1 (.slice D l2.length F) (l2.map Value.string) l2.length)(k:l1.length<=1000000000∧l2.length<=1000000000):
  CZ 37 #[.slice C l1.length E,.slice D l2.length F] w (RT (.bool (decide (l1=l2))) w):=by
 obtain⟨r,x⟩:=EX (decide (l1=l2));have p:Hid (r=decide (l1=l2)):=x;rw[<-x];by_cases j:l1.length=l2.length
 ·have A:Hid (l1.length=l2.length∧l1.length<=1000000000):=⟨j,k.1⟩;obtain⟨n,H⟩:=EX l1.length;have J:Hid (n=l1.length):=H;rw[<-j,<-H];have U:((n:Int)==(n:Int))=true:=by simp
  have aa:((n:Int) !=(n:Int))=false:=by simp
  have B:∀{S:Nat->Prop}{a:Option Addr}{c:Nat}{l:List ByteArray},Sl w S 9 1 (.slice a l.length c) (l.map Value.string) l.length->l.length<=1000000000->∀W,TF w W->Bw W a c l:=fun h Z W t=>by obtain⟨a',c',e,y⟩:=zQ (h.turned t fun _ _ z=>z) Z;injection e with K e2 V;subst K;subst V;exact y
  have O:Hid (∀W,TF w W->Bw W C E l1):=B h1 k.1;have P:Hid (∀W,TF w W->Bw W D F l2):=B h2 k.2;clear B;have I:Hid (CA w l1 l2 n (.int .i64 0) w):=⟨0,rfl,by omega,by simp,TQ⟩;clear h1 h2 j x H k;go_enter func37,ntmps37;go_wp2;go_loopg[5] n (fun g v wr=>CA w l1 l2 g v wr)
  case atStart=>exact I.o
  case round=>
   obtain⟨i,rfl,L,M,N⟩:=hrel;have f:Hid (TF w wr):=N;have m:Hid (i+gk=l1.length∧l1.take i=l2.take i):=⟨L,M⟩;clear L M I N;by_cases ab:i<n
   ·have X:decide ((i:Int)<(n:Int))=true:=by simp;omega
    have Y:decide (i<n)=true:=by simp;omega
    have s:i<l1.length:=by have:=J.o;omega
    have u:i<l2.length:=by have:=A.o;omega
    obtain⟨b1,o1,rfl,z1,k1⟩:=(O.o _ f.o).2 (by omega);obtain⟨b2,o2,rfl,z2,k2⟩:=(P.o _ f.o).2 (by omega);have x1:=k1 i l1[i] (LB s);have x2:=k2 i l2[i] (LB u);have d:Hid (l1[i]?=some l1[i]∧l2[i]?=some l2[i]∧i<l1.length∧i<l2.length):=⟨LB s,LB u,s,u⟩;have Q:Hid (wrap64 ((i:Int)+1)=((i+1:Nat):Int)):=i7 (by have:=A.o;simp[wrap64];omega);generalize l1[i]=y1 at *;generalize l2[i]=y2 at *;clear k1 k2 s u;by_cases G:y1=y2
    ·subst G;have b:Hid (l1.take (i+1)=l2.take (i+1)):=i7 (by rw[List.take_add_one,List.take_add_one,m.o.2,d.o.1,d.o.2.1]);go_wp2;go_region;go_wp2;go_roundg (gk-1)
     case measure=>have:=m.o;have:=d.o;omega
     case rel=>exact⟨i+1,by rw[Q.o],by have:=m.o;have:=d.o;omega,b.o,f.o.draw⟩
    ·have b:Hid (r=false):=i7 (by rw[p.o];refine LD fun q=>G ?_;have:=d.o;rw[q]at this;exact Option.some.inj (this.1.symm.trans this.2.1));have K:=jp _ _ G;go_wp2;go_region;go_wp2;go_ret;exact⟨by rw[b.o];rfl,f.o.draw⟩
   ·have X:decide ((i:Int)<(n:Int))=false:=by simp;omega
    have Y:decide (i<n)=false:=by simp;omega
    have b:Hid (r=true):=i7 (by rw[p.o];refine LX ?_;have q1:=m.o;have q2:=A.o;have q3:=J.o;have:=q1.2;rw[List.take_of_length_le (by omega),List.take_of_length_le (by omega)]at this;exact this);go_wp2;go_ret;exact⟨by rw[b.o];rfl,f.o⟩
 ·have U:((l1.length:Int)==(l2.length:Int))=false:=by simp;omega
  have d1:((l1.length:Int) !=(l2.length:Int))=true:=by simp;omega
  have b:Hid (r=false):=i7 (by rw[p.o];exact LD fun q=>j (by rw[q]));generalize l1.length=n1 at *;generalize l2.length=n2 at *;clear h1 h2 x p j k;go_enter func37,ntmps37;go_wp2;go_ret;exact⟨by rw[b.o];rfl,TQ⟩
end Go.Proofs.YtofcogekgcgjhaaGreatDoor
