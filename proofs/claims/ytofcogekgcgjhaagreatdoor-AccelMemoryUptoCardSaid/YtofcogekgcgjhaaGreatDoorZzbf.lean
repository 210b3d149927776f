/- Packed. -/
import Derived.Test.YtofcogekgcgjhaaGreatDoorZzbb
set_option maxRecDepth 100000
set_option maxHeartbeats 8000000
namespace Go.Proofs.YtofcogekgcgjhaaGreatDoor
open Go.RowKit Go.Mine Go.Mine.Ac Go.Proofs.Tryz
theorem Al(s:I2)(f:AY)(path:ByteArray)(w:World)(S:s.seed<4294967296)(R:path.size<=1000000000)(hg:n0 s)(c:f.bits.size<=4096):
    CZ 195 #[J3 s,dZ f,.string path] w (RT (.bool (U6 s f path)) w):=by
  obtain⟨Z,D⟩:∃Z:Ending->World->Prop,Z=(RT (.bool (U6 s f path)) w):=⟨_,rfl⟩;have J:Hid (Z=(RT (.bool (U6 s f path)) w)):=D;rw[<-D];obtain⟨st,bs⟩:=f;unfold dZ;dsimp only at c ⊢;obtain⟨B,C⟩:=EX ((w.alloc (.cells #[.int .i64 s.h,.int .i64 s.p,.int .i64 s.m,.int .u32 s.seed] 24)).alloc (.cells #[.int .i64 st,.string bs] 46));have Y:Hid (B=(w.alloc (.cells #[.int .i64 s.h,.int .i64 s.p,.int .i64 s.m,.int .u32 s.seed] 24)).alloc (.cells #[.int .i64 st,.string bs] 46)):=C;obtain⟨F,G,H⟩:=p8 (w:=w) (.cells #[.int .i64 s.h,.int .i64 s.p,.int .i64 s.m,.int .u32 s.seed] 24) (.cells #[.int .i64 st,.string bs] 46);rw[<-C]at F G H;have M:Hid (TF w B):=F;have U:Hid (∀W,TF B W->W.cell? ⟨w.heap.size+1,0,none⟩=some (.int .i64 st)∧W.cell? ⟨w.heap.size+1,1,none⟩=some (.string bs)∧w.heap.size+1<W.heap.size∧W.cell? ⟨w.heap.size,0,none⟩=some (.int .i64 s.h)∧W.cell? ⟨w.heap.size,1,none⟩=some (.int .i64 s.p)∧W.cell? ⟨w.heap.size,2,none⟩=some (.int .i64 s.m)∧W.cell? ⟨w.heap.size,3,none⟩=some (.int .u32 s.seed)∧w.heap.size<W.heap.size):=fun W q=>by have c:=j9 H q id;have E:=j9 G q id;exact⟨g9 c 0 _ rfl,g9 c 1 _ rfl,i6 c,g9 E 0 _ rfl,g9 E 1 _ rfl,g9 E 2 _ rfl,g9 E 3 _ rfl,i6 E⟩
  obtain⟨v0,v1,v2,v3,v4,v5,v6,v7⟩:=U.o B TQ;by_cases h1:st=1
  ·subst h1;by_cases ad:bs.size=0
   ·have u:Hid (U6 s ⟨1,bs⟩ path=true):=i7 (by
      have e:o0 s path (8*bs.size)=[]:=dO fun q=>by omega
      unfold U6;simp only[e];simp)
    have d0:((bs.size:Int)==0)=true:=by rw[ad];rfl
    clear D C F G H S R c ad hg;go_enter func195,ntmps195;go_wp2;rw[J.o];exact⟨by rw[u.o];rfl,by rw[<-Y.o];exact M.o⟩
   have d0:((bs.size:Int)==0)=false:=beq_eq_false_iff_ne.2 (by omega);have P:=kz s path (8*bs.size) B S R hg (by omega) (by omega);unfold dY at P;have am:U6 s ⟨1,bs⟩ path=(o0 s path (8*bs.size)).all fun j=>U5 bs j:=by unfold U6;simp
   have A:∀x∈o0 s path (8*bs.size),x<8*bs.size:=fun x hx=>by
     unfold o0 at hx;split at hx
     ·rename_i q;obtain⟨i,-,rfl⟩:=List.mem_map.1 hx;exact Nat.mod_lt _ (by omega)
     ·simp at hx
   have u:Hid (U6 s ⟨1,bs⟩ path=(o0 s path (8*bs.size)).all fun j=>U5 bs j):=am;have ae:Hid (∀x∈o0 s path (8*bs.size),x<8*bs.size):=A;have HB:Hid (bs.size<=4096):=c;have al:(o0 s path (8*bs.size)).length<=16:=by
     unfold o0;split
     ·rename_i q;rw[List.length_map,List.length_range];have:=q.1.2.1;omega
     ·simp
   have au:Hid ((o0 s path (8*bs.size)).length<=16):=al;generalize o0 s path (8*bs.size)=pl at *;obtain⟨n,O⟩:=EX (8*bs.size);have hw:wrap64 ((8:Int)*(bs.size:Int))=(n:Int):=by rw[O];simp only[wrap64];omega
   rw[<-O]at P ae;have HN:Hid (n=8*bs.size):=O;have av:=i7 P;clear D C F G H S R c am A al P O hg ad;go_enter func195,ntmps195;go_wp2_with fail;rw[<-Y.o];go_wp2_with(go_fit av.o;rintro e w1⟨v,rfl,aa,l⟩;obtain⟨k0,k1,k2,-⟩:=U.o w1 l;obtain⟨a,cap,rfl,-,-⟩:=aa.value;have SL:=i7 aa;replace l:=i7 l;clear aa);obtain⟨L,N⟩:=EX ((E3 pl).length);have d:Hid (L=pl.length∧L=(E3 pl).length):=⟨by rw[N];simp[E3],N⟩;rw[<-N];clear N;go_loopg[8] L (fun g iv wr=>CB w1 ⟨1,bs⟩ pl g iv wr)
   case atStart=>exact⟨0,by rw[d.o.1,Nat.zero_add],rfl,fun t x l=>by omega,TQ⟩
   case round=>
     obtain⟨j,ak,rfl,ai,k⟩:=hrel;have T:Hid (j+gk=pl.length):=ak;have HA:Hid (∀(t:Nat)x,t<j->pl[t]?=some x->U5 bs x=true):=ai;have K:Hid (TF w1 wr):=k;obtain⟨k0,k1,k2,-⟩:=U.o wr (l.o.tr k);clear ak ai k;by_cases A:j<L
     ·obtain⟨x,hx⟩:∃x,pl[j]?=some x:=⟨_,LB (by rw[<-d.o.1];exact A)⟩;have aC:=ae.o x (LI hx);have HX:Hid (pl[j]?=some x):=hx;obtain⟨y,hy⟩:=EX (x / 8);have ac:y<bs.size:=by have:=HN.o;omega
      have aw:=jy bs y ac;obtain⟨b,c⟩:=EX (bs[y].toNat);obtain⟨g,off,aD,aq,-,-,-,aj,-,aH⟩:=(SL.o.turned K.o fun _ _ z=>z).opens (by rw[<-d.o.2];omega);simp only[Value.slice.injEq]at aq;obtain⟨rfl,-,-⟩:=aq;have c0:wr.cell? ⟨g,off+j,none⟩=some (.int .i64 (x:Nat)):=by rw[aj j (by rw[<-d.o.2];omega)];unfold E3;rw[List.getElem?_map,List.getElem?_map,hx];rfl
      have e1:(x:Int) / 8=(y:Int):=by rw[hy];omega
      obtain⟨r,k⟩:=EX (x% 8);have e2:(x:Int)% 8=(r:Int):=by rw[k];omega
      have I:Hid (y=x / 8∧r=x% 8∧b=bs[y].toNat):=⟨hy,k,c⟩;have aI:r<8:=by omega
      obtain⟨q,Q⟩:=EX (bs[y].toNat / 2^r);have an:((bs[y].toNat:Nat):Int) / 2^r=(q:Int):=by rw[Q];push_cast;rfl
      have ax:q<256:=by rw[Q];exact Nat.lt_of_le_of_lt (Nat.div_le_self _ _) bs[y].toNat_lt
      obtain⟨t,ab⟩:=EX (q% 2);have ao:bits .and .u8 (q:Int) 1=(t:Int):=by have:=u8_and_nat q 1 ax (by decide);rw[Nat.and_one_is_mod,<-ab]at this;exact this
      have V:Hid (q=bs[y].toNat / 2^r∧t=q% 2):=⟨Q,ab⟩;clear aw Q ab;have aB:wrap64 (y:Int)=(y:Int):=by have:=HB.o;simp only[wrap64];omega
      clear aj hy k;have HW:Hid (wrap64 ((j:Int)+1)=((j+1:Nat):Int)):=i7 (by have:=au.o;have:=d.o.1;simp[wrap64];omega);clear hx aC c;obtain⟨X,ag,ah,aE⟩:=DU x y r I.o.1 I.o.2.1;obtain⟨az,aA⟩:=dq y (LR (Nat.le_of_lt ac) (LR HB.o (by decide)));obtain⟨aF,aG⟩:=jB X y ah az aA;rw[<-ag]at c0;have E2:Hid ((x:Int)% 8=(r:Int)):=e2;clear e2;have ar:Hid (U5 bs x=decide (t=1)):=rL bs x y r q t ac I.o.1 I.o.2.1 V.o.1 V.o.2;have ay:bits .and .u8 (((bs[y].toNat:Nat):Int) / 2^r) 1=(t:Int):=by rw[an];exact ao
      obtain⟨z,hz⟩:∃z,((t:Int)==0)=z:=⟨_,rfl⟩;have af:Hid (U5 bs x= !z):=i7 (by rw[ar.o,<-hz];rcases(show t=0∨t=1 by have:=V.o.2;omega)with rfl|rfl<;>rfl);clear e1 aB ag ah an ao;rcases(show r=0∨r=1∨r=2∨r=3∨r=4∨r=5∨r=6∨r=7 by omega)with rfl|rfl|rfl|rfl|rfl|rfl|rfl|rfl
      all_goals simp only[Int.reducePow,Int.ediv_one]at ay
      all_goals go_upto_region 7 with(fail)
      all_goals go_quiet (fail)
      all_goals cases z
      all_goals go_wp2
      all_goals first
        |(go_roundg (gk-1)
          case measure=>have:=T.o;have:=d.o.1;omega
          case rel=>
            refine⟨j+1,by have:=T.o;have:=d.o.1;omega,by rw[HW.o],fun t' x' h1 h2=>?_,K.o.drawN _⟩;rcases Nat.lt_or_eq_of_le (Nat.le_of_lt_succ h1)with z|z
            ·exact HA.o t' x' z h2
            ·rw[z,HX.o]at h2;obtain rfl:=Option.some.inj h2;show U5 bs x=true;rw[af.o];rfl)
        |(rw[J.o]
          refine⟨?_,(M.o.tr (l.o.trans K.o fun _ _ z=>z)).drawN _⟩;rw[u.o];have:(pl.all fun j=>U5 bs j)=false:=by rw[List.all_eq_false];exact⟨x,LI HX.o,by rw[af.o];decide⟩
          rw[this];rfl)
     ·have hj:j=L:=by have:=T.o;have:=d.o.1;omega
      have HJ:Hid (j=L):=hj;have hd:decide (j<L)=false:=LD A;clear hj A;go_wp2;rw[J.o];refine⟨?_,M.o.tr (l.o.trans K.o fun _ _ z=>z)⟩;rw[u.o];have:(pl.all fun j=>U5 bs j)=true:=by rw[List.all_eq_true];intro x hx;obtain⟨t',ap⟩:=LM hx;have h1:=(LA.1 ap).1;exact HA.o t' x (by rw[HJ.o,d.o.1];exact h1) ap
      rw[this];rfl
  ·have u:Hid (U6 s ⟨st,bs⟩ path=true):=i7 (by unfold U6;simp[h1]);have e1:(st==1)=false:=by simp[h1]
   have e2:(st !=1)=true:=by simp[h1]
   clear D C F G H S R c h1;go_enter func195,ntmps195;go_wp2_with fail;rw[<-Y.o];go_wp2;rw[J.o];exact⟨by rw[u.o];rfl,M.o⟩
theorem jf(l:List ByteArray):∀n i:Nat,i+n=l.length->(once (l.take i)).length<=(once l).length
 |0,i,h=>by rw[List.take_of_length_le (by omega)];exact LS _
 |n+1,i,h=>by
  refine LR ?_ (jf l n (i+1) (by omega));have:l.take (i+1)=l.take i++[l[i]'(by omega)]:=by rw[List.take_add_one,List.getElem?_eq_getElem (by omega)];rfl
  rw[this,gV];split<;>omega
def jg(w:World)(l:List ByteArray)(d:Nat)(e:Ending)(w':World):Prop:=∃(c:List ByteArray)(a:Option Addr)(cap:Nat),e=.returned (.slice a c.length cap)∧Sl w' (fun b=>w.heap.size<=b) 9 1 (.slice a c.length cap) (c.map Value.string) c.length∧c.Nodup∧((c.length<=d∧∀x,x∈c↔x∈l)∨(d<c.length∧d<(once l).length))∧TF w w'
def Dr(w:World)(l:List ByteArray)(f:Nat)(g:Nat)(d e:Value)(wr:World):Prop:=∃(i:Nat)(a:List ByteArray)(c:Nat->Prop),i+g=l.length∧e=.int .i64 i∧Sl wr c 9 1 d (a.map Value.string) a.length∧(∀b,c b->w.heap.size<=b)∧a.Nodup∧(∀x,x∈a↔x∈l.take i)∧a.length<=i∧TF w wr
def yS(p:ByteArray)(l:List ByteArray):Bool:=l.all fun q=>decide (q≠p)
theorem pH{p:ByteArray}{l:List ByteArray}(h:p ∉ l):yS p l=true:=by unfold yS;rw[List.all_eq_true];exact fun q a=>LX fun z=>h (z▸a)
theorem pI{p:ByteArray}{l:List ByteArray}(h:p∈l):yS p l=false:=by unfold yS;rw[List.all_eq_false];exact⟨p,h,by simp⟩
def Ds(d:World)(a:List ByteArray)(p:ByteArray)(g:Nat)(b c:Value)(wr:World):Prop:=∃k:Nat,k+g=a.length∧c=.int .i64 k∧b=.bool (yS p (a.take k))∧TF d wr
theorem info9s:(prog.info? 9).map (fun i=>(i.zero,i.size,i.bytes))=some (some (.string ⟨#[]⟩),1,16):=by kernel_rfl
theorem kX{l:List ByteArray}{i:Nat}{p:ByteArray}(h:l[i]?=some p):(l.map Value.string)[i]?=some (.string p):=by rw[List.getElem?_map,h];rfl
theorem sI{w:World}{S:Nat->Prop}{a:Option Addr}{cap j:Nat}{l:List ByteArray}(h:Sl w S 9 1 (.slice a l.length cap) (l.map Value.string) l.length)(V:l.length<=1000000)(hM:j<=512):
  CZ 313 #[.slice a l.length cap,.int .i64 j] w (jg w l j):=by
 obtain⟨Z,U⟩:=EX (jg w l j);have HZ:Hid (Z=jg w l j):=U;rw[<-U];obtain⟨L,T⟩:=EX l.length;have r:Hid (L=l.length∧L<=1000000∧j<=512):=i7 ⟨T,by omega,hM⟩;have H:Hid (Sl w S 9 1 (.slice a l.length cap) (l.map Value.string) l.length):=h;rw[<-T];have B0:Hid (Dr w l j L (.slice none 0 0) (.int .i64 0) w):=⟨0,[],fun _=>False,by omega,rfl,Sl.nil _ _ _ _,fun _ z=>z.elim,by simp,by simp,LS _,TQ⟩;clear h V T hM U;go_enter func313,ntmps313;go_wp2;go_loopg[5,6] L (fun g av iv wr=>Dr w l j g av iv wr)
 case atStart=>exact B0.o
 case round=>
  obtain⟨i,c,C,ah,rfl,hsa,ab,ak,aj,ad,ht⟩:=hrel;obtain⟨M,N,rfl,-,-⟩:=hsa.value;have TT:Hid (TF w wr):=ht;have e:Hid (Sl wr C 9 1 (.slice M c.length N) (c.map Value.string) c.length∧(∀b,C b->w.heap.size<=b)∧c.Nodup∧(∀x,x∈c↔x∈l.take i)∧c.length<=i):=⟨hsa,ab,ak,aj,ad⟩;have G:Hid (i+gk=l.length):=ah;obtain⟨d,R⟩:=EX c.length;have f:Hid (d=c.length):=R;rw[<-R];clear ah hsa ab ak aj ad ht B0 R;have P:Hid (¬(i<L∧d<=j)->∀W,TF wr W->jg w l j (.returned (.slice M d N)) W):=i7 fun ay W t=>by
   refine⟨c,M,N,by rw[f.o],(e.o.1.turned t fun _ _ z=>z).widen e.o.2.1,e.o.2.2.1,?_,TT.o.tr t⟩;by_cases n:d<=j
   ·refine .inl ⟨by rw[<-f.o];exact n,fun x=>?_⟩;rw[e.o.2.2.2.1,List.take_of_length_le (by have:=r.o;omega)]
   ·refine .inr ⟨by rw[<-f.o];omega,?_⟩;have h1:(once (l.take i)).length=c.length:=iE e.o.2.2.1 e.o.2.2.2.1;have h2:=jf l gk i G.o;have:=f.o;omega
  by_cases v:i<L
  ·have e3:decide ((i:Int)<(L:Int))=true:=LX (by omega);have e4:decide (i<L)=true:=LX v;by_cases n:d<=j
   ·have e5:decide ((d:Int)<=(j:Int))=true:=LX (by omega);have e6:decide (d<=j)=true:=LX n;obtain⟨p,X⟩:∃p,l[i]?=some p:=⟨_,LB (by rw[<-r.o.1];exact v)⟩;obtain⟨g,off,au,an,-,-,-,af,-,ag⟩:=H.o.opens (by rw[<-r.o.1];omega);simp only[Value.slice.injEq]at an;obtain⟨rfl,-,-⟩:=an;have c0:w.cell? ⟨g,off+i,none⟩=some (.string p):=by rw[af i (by rw[<-r.o.1];omega)];exact kX X
    have CP:Hid (∀W,TF w W->W.cell? ⟨g,off+i,none⟩=some (.string p)∧g<W.heap.size):=i7 fun W t=>⟨m6 c0 t id,LC ag t.size⟩
    have s:Hid (l[i]?=some p∧i<L∧d<=j):=i7 ⟨X,v,n⟩;have B1:Hid (Ds wr c p d (.bool true) (.int .i64 0) wr):=⟨0,by have:=f.o;omega,rfl,rfl,TQ⟩;generalize ap:gk=Gk at *;clear ap af X c0 ag n P;generalize aq:wr=wi at *;clear aq;go_wp2;go_loopg[7,8] d (fun g fv kv wr=>Ds wi c p g fv kv wr)
    case atStart=>exact B1.o
    case round=>
     obtain⟨k,ai,rfl,rfl,ht⟩:=hrel;have D:Hid (TF wi wr):=ht;have y:Hid (k+gk=c.length):=ai;have K:Hid (TF w wr):=i7 (TT.o.tr ht);obtain⟨k1,k2⟩:=CP.o wr K.o;clear ai ht B1;by_cases J:k<d
     ·obtain⟨q,n⟩:∃q,c[k]?=some q:=⟨_,LB (by rw[<-f.o];exact J)⟩;obtain⟨g2,ar,aw,am,-,-,-,ae,-,ax⟩:=(e.o.1.turned D.o fun _ _ z=>z).opens (by have:=f.o;omega);simp only[Value.slice.injEq]at am;obtain⟨rfl,-,rfl⟩:=am;have c2:wr.cell? ⟨g2,ar+k,none⟩=some (.string q):=by rw[ae k (by have:=f.o;omega)];exact kX n
      have e7:decide ((k:Int)<(d:Int))=true:=LX (by omega);have e8:decide (k<d)=true:=LX J;have u:Hid (c[k]?=some q∧k<d):=i7 ⟨n,J⟩;have B:Hid (wrap64 ((k:Int)+1)=((k+1:Nat):Int)):=i7 (by have:=s.o;have:=r.o;simp[wrap64];omega);have A:Hid (c.take (k+1)=c.take k++[q]):=i7 (by rw[List.take_add_one,n];rfl);clear ae n;by_cases m:p ∉ c.take k
      ·have d1:yS p (c.take k)=true:=pH m;by_cases E:q=p
       ·have d2:(q.toList==p.toList)=true:=iM E;have I:Hid (yS p (c.take (k+1))=false):=i7 (pI (by rw[A.o,E];simp));rw[d1];clear E m d1;go_wp2;go_quiet (fail);go_wp2;go_roundg (gk-1)
        case measure=>have:=y.o;have:=u.o;have:=f.o;omega
        case rel=>exact⟨k+1,by have:=y.o;have:=u.o;have:=f.o;omega,by rw[B.o],by rw[I.o],D.o.drawN _⟩
       ·have d2:(q.toList==p.toList)=false:=eA E;have I:Hid (yS p (c.take (k+1))=true):=i7 (pH (by rw[A.o];simp only[List.mem_append,List.mem_singleton];exact fun z=>z.elim m fun z=>E z.symm));rw[d1];clear E m d1;go_wp2;go_quiet (fail);go_wp2;go_roundg (gk-1)
        case measure=>have:=y.o;have:=u.o;have:=f.o;omega
        case rel=>exact⟨k+1,by have:=y.o;have:=u.o;have:=f.o;omega,by rw[B.o],by rw[I.o],D.o.drawN _⟩
      ·have d1:yS p (c.take k)=false:=pI (Classical.not_not.1 m);have I:Hid (yS p (c.take (k+1))=false):=i7 (pI (by rw[A.o];exact List.mem_append.2 (.inl (Classical.not_not.1 m))));rw[d1];clear m d1;go_wp2;go_quiet (fail);go_wp2;go_roundg (gk-1)
       case measure=>have:=y.o;have:=u.o;have:=f.o;omega
       case rel=>exact⟨k+1,by have:=y.o;have:=u.o;have:=f.o;omega,by rw[B.o],by rw[I.o],D.o.drawN _⟩
     ·have e7:decide ((k:Int)<(d:Int))=false:=LD (by omega);have e8:decide (k<d)=false:=LD J;have u:Hid (c.take k=c):=i7 (LQ (by have:=f.o;omega));rw[u.o];have B:Hid (wrap64 ((i:Int)+1)=((i+1:Nat):Int)):=i7 (by have:=s.o;have:=r.o;simp[wrap64];omega);have A:Hid (l.take (i+1)=l.take i++[p]):=i7 (by rw[List.take_add_one,s.o.1];rfl);clear J;by_cases m:p∈c
      ·have d1:yS p c=false:=pI m;rw[d1];have Q:Hid (p∈c):=m;clear m d1;go_wp2;go_roundg (Gk-1)
       case measure=>have:=G.o;have:=s.o;have:=r.o;omega
       case rel=>
        refine⟨i+1,c,C,by have:=G.o;have:=s.o;have:=r.o;omega,by rw[B.o],?_,e.o.2.1,e.o.2.2.1,fun x=>?_,Nat.le_succ_of_le e.o.2.2.2.2,K.o⟩
        ·rw[f.o];exact e.o.1.turned D.o fun _ _ z=>z
        ·rw[A.o,List.mem_append,List.mem_singleton,e.o.2.2.2.1];exact⟨.inl,fun z=>z.elim id fun z=>by rw[z];exact(e.o.2.2.2.1 p).1 Q.o⟩
      ·have d1:yS p c=true:=pH m;rw[d1];have Q:Hid (p ∉ c):=m;have m1:Hid (d+1<=maxLen∧(d+1)*16<=140737488355328):=i7 ⟨by have:=s.o;have:=r.o;simp only[maxLen];omega,by have:=s.o;have:=r.o;omega⟩;have ao:Hid (Sl wr C 9 1 (.slice M d N) (c.map Value.string) d):=i7 (by rw[f.o];exact e.o.1.turned D.o fun _ _ z=>z);clear m d1;go_wp2_with(at_builtin;refine m7 rfl _ _ 84 84 rfl (ao.o.turned (d7.alloc (fun _=>False) wr (.cells #[.string p] 9)) fun _ _ z=>z) underlying84 info9s rfl (by decide) rfl (.slice (some ⟨wr.heap.size,0,none⟩) 1 1) rfl (G5 9 underlying84 [.string p] (by simp[Value.oneCell']) wr) m1.o.1 m1.o.2 ?_;intro v8 w8 hsl8 al;obtain⟨a8,c8,rfl,-,-⟩:=hsl8.value;have Y:=i7 (And.intro hsl8 al);clear hsl8 al);go_roundg (Gk-1)
       case measure=>have:=G.o;have:=s.o;have:=r.o;omega
       case rel=>
        have t:TF w w8:=K.o.comp ((d7.alloc C wr (.cells #[.string p] 9)).tr Y.o.2) fun i hi z=>by have:=e.o.2.1 i (z.elim False.elim id);omega
        have V:(c++[p]).length=d+1:=by rw[List.length_append,<-f.o];rfl
        refine⟨i+1,c++[p],fun b=>C b∨(wr.alloc (.cells #[.string p] 9)).heap.size<=b,by have:=G.o;have:=s.o;have:=r.o;omega,by rw[B.o],?_,fun b O=>?_,?_,fun x=>?_,by have:=e.o.2.2.2.2;have:=f.o;omega,t⟩
        ·rw[V,List.map_append];exact Y.o.1
        ·have:=K.o.size;have:=(d7.alloc (fun _=>False) wr (.cells #[.string p] 9)).size;exact O.elim (e.o.2.1 b) fun z=>by omega
        ·rw[List.nodup_append];refine⟨e.o.2.2.1,by simp,fun a ha b O=>?_⟩;rw[List.mem_singleton]at O;rintro rfl;exact Q.o (O▸ha)
        ·rw[A.o,List.mem_append,List.mem_append,e.o.2.2.2.1]
   ·have e5:decide ((d:Int)<=(j:Int))=false:=LD (by omega);have e6:decide (d<=j)=false:=LD n;have F:=P.o fun z=>n z.2
    replace F:=i7 F;clear n v;go_wp2;rw[HZ.o];exact F.o _ TQ
  ·have e3:decide ((i:Int)<(L:Int))=false:=LD (by omega);have e4:decide (i<L)=false:=LD v;have F:=P.o fun z=>v z.1
   replace F:=i7 F;clear v;go_wp2;rw[HZ.o];exact F.o _ TQ
def Dt(s:I2)(N:Nat)(b:List ByteArray)(a:Nat)(c:World)(g:Nat)(d:Value)(wr:World):Prop:=∃i:Nat,i+g=b.length∧d=.int .i64 i∧Sl wr (· =a) 5 1 (.slice (some ⟨a,0,none⟩) N N) (o9 (F1 N (dF s (8*N) (b.take i)))) N∧d7 (· =a) c wr
theorem yo(s:I2)(l:List ByteArray)(w:World){S:Nat->Prop}{a:Option Addr}{cap:Nat}(J:n0 s)(aI:s.seed<4294967296)(h:Sl w S 9 1 (.slice a l.length cap) (l.map Value.string) l.length)(hl:l.length<=1000000)(hs:∀x∈l,x.size<=1000000000):
  CZ 251 #[J3 s,.slice a l.length cap] w (P7 w s l):=by
 obtain⟨Z,hZ⟩:=EX (P7 w s l);have HZ:Hid (Z=P7 w s l):=hZ;rw[<-hZ];obtain⟨j,hV⟩:=EX ((w.alloc (.cells #[.int .i64 s.h,.int .i64 s.p,.int .i64 s.m,.int .u32 s.seed] 24)).alloc (.cells #[.int .i64 0,.string ⟨#[]⟩] 46));have aW:Hid (j=(w.alloc (.cells #[.int .i64 s.h,.int .i64 s.p,.int .i64 s.m,.int .u32 s.seed] 24)).alloc (.cells #[.int .i64 0,.string ⟨#[]⟩] 46)):=hV;obtain⟨tV,xS,xF⟩:=p8 (w:=w) (.cells #[.int .i64 s.h,.int .i64 s.p,.int .i64 s.m,.int .u32 s.seed] 24) (.cells #[.int .i64 0,.string ⟨#[]⟩] 46);rw[<-hV]at tV xS xF;have TV:Hid (TF w j):=tV;have O:Hid (∀W,d7 (fun b=>j.heap.size<=b) j W->(W.cell? ⟨w.heap.size,0,none⟩=some (.int .i64 s.h)∧W.cell? ⟨w.heap.size,1,none⟩=some (.int .i64 s.p)∧W.cell? ⟨w.heap.size,2,none⟩=some (.int .i64 s.m)∧W.cell? ⟨w.heap.size,3,none⟩=some (.int .u32 s.seed)∧w.heap.size<W.heap.size)∧W.heap[w.heap.size+1]?=some (.cells #[.int .i64 0,.string ⟨#[]⟩] 46)):=fun W q=>by have z1:=i6 xS;have z2:=i6 xF;have ha:=j9 xS q (by omega);exact⟨⟨g9 ha 0 _ rfl,g9 ha 1 _ rfl,g9 ha 2 _ rfl,g9 ha 3 _ rfl,i6 ha⟩,j9 xF q (by omega)⟩
 have aO:Hid (CZ 196 #[.agg #[.int .i64 s.h,.int .i64 s.p,.int .i64 s.m,.int .u32 s.seed]] j (RT (.int .i64 0) j)):=i7 (by have:=fV s j;rw[if_pos J]at this;exact this);obtain⟨f,hM⟩:∃f:Nat,s.m=(f:Int):=⟨s.m.toNat,by have:=J.2.2.2.2.1;omega⟩;obtain⟨G,aH⟩:∃G:Nat,s.p=(G:Int):=⟨s.p.toNat,by have:=J.2.2.1;omega⟩;have H:Hid (s.m=(f:Int)∧s.p=(G:Int)∧f<=512∧G<=64):=i7 ⟨hM,aH,by have:=J.2.2.2.2.2;omega,by have:=J.2.2.2.1;omega⟩;have aV:Hid (∀W,TF j W->CZ 313 #[.slice a l.length cap,.int .i64 f] W fun e w'=>jg W l f e w'):=i7 fun W t=>sI ((h.turned tV fun _ _ z=>z).turned t fun _ _ z=>z) hl H.o.2.2.1
 have P:Hid (n0 s∧s.seed<4294967296∧(∀x∈l,x.size<=1000000000)):=⟨J,aI,hs⟩;obtain⟨⟨v0,v1,v2,v3,v4⟩,k0⟩:=O.o j TQ;rw[hM]at v2;clear hZ hV tV xS xF J h hl hs aI hM aH k0;generalize l.length=L at *;go_enter func251,ntmps251;go_wp2_with fail;rw[<-aW.o];have KM:Hid (∀W,d7 (fun b=>j.heap.size<=b) j W->W.cell? ⟨w.heap.size,2,none⟩=some (.int .i64 f)∧W.cell? ⟨w.heap.size,1,none⟩=some (.int .i64 G)∧w.heap.size<W.heap.size):=i7 fun W t=>by obtain⟨⟨-,h1,h2,-,h4⟩,-⟩:=O.o W t;rw[H.o.1]at h2;rw[H.o.2.1]at h1;exact⟨h2,h1,h4⟩
 go_upto_region 4 with(first
  |(go_fit aO.o;rintro e w1⟨rfl,q⟩;obtain⟨x1,x2,x3⟩:=KM.o w1 (q.mono fun _ _ z=>z.elim);replace q:=i7 q)
  |(go_fit(aV.o _ q.o);rintro e w2⟨c,ua,uc,rfl,B,aD,aF,F⟩))
 obtain⟨n,hn⟩:=EX c.length;have E:Hid (n=c.length):=hn;rw[<-hn]at B ⊢;have SA:Hid (Sl w2 (fun b=>w1.heap.size<=b) 9 1 (.slice ua n uc) (c.map Value.string) n):=B;have ND:Hid (c.Nodup∧((c.length<=f∧∀x,x∈c↔x∈l)∨(f<c.length∧f<(once l).length))):=⟨aD,aF⟩;have U:Hid (TF j w2):=i7 (q.o.tr F);obtain⟨y1,y2,y3⟩:=KM.o w2 (U.o.mono fun _ _ z=>z.elim);clear B aD aF F hn x1 x2 x3 v0 v1 v2 v3 v4;have au:Hid (s.m.toNat=f):=i7 (by have:=H.o.1;omega);by_cases r:f<n
 ·have d1:decide ((f:Int)<(n:Int))=true:=LX (by omega);have d2:decide (f<n)=true:=LX r
  have aP:Hid (qq s l=.tuple #[dZ ⟨2,⟨#[]⟩⟩,.int .i64 0]):=i7 (by
   unfold qq
   rw[if_pos P.o.1,Y3 (by
    rw[au.o];rcases ND.o.2 with z|z
    ·have:=E.o;omega
    ·exact z.2)])
  have k0:=(O.o w2 (U.o.mono fun _ _ z=>z.elim)).2;have f0:=j7 k0 0;have f1:=j7 k0 1;have D:=g9 k0 0 _ rfl;have V:=g9 k0 1 _ rfl;have kl:=i6 k0;clear k0 r;go_wp2;refine bodyPost_ret (v:=.tuple #[dZ ⟨2,⟨#[]⟩⟩,.int .i64 0]) (by simp[results,Tryz.results251,go_sem,D,V,kl,f0,f1]) rfl ?_;rw[HZ.o];exact⟨by rw[aP.o],((TV.o.tr U.o).fresh (Nat.le_succ _) _).fresh (Nat.le_succ _) _⟩
 ·have d1:decide ((f:Int)<(n:Int))=false:=LD (by omega);have d2:decide (f<n)=false:=LD r;have aR:Hid (n<=f):=i7 (by omega)
  have Q:Hid (n<=512∧∀x,x∈c↔x∈l):=i7 ⟨by have:=H.o;omega,by
   rcases ND.o.2 with z|z
   ·exact z.2
   ·have:=E.o;omega⟩
  obtain⟨np,qn,N,aE,ap,aq,ar,a4⟩:=ma n G Q.o.1 H.o.2.2.2;have A:Hid (np=n*G∧np<=32768∧qn=(np+7) / 8∧N=max 1 qn∧1<=N∧N<=4096):=aE;obtain⟨Z5,ak⟩:=EX (madeCells #[.int .u8 0] (N*1));have a3:∀W:World,(Instr.makeSlice 83 (.int .i64 (N:Int)) (.int .i64 (N:Int))).run prog W=.ok (.slice (some ⟨W.heap.size,0,none⟩) N N) (W.alloc (.cells Z5 5)):=fun W=>by rw[ak];exact lZ N (LR A.o.2.2.2.2.2 (by decide)) W
  have aX:Hid (Z5=madeCells #[.int .u8 0] (N*1)):=ak;clear r aE ak;go_upto_region 7 with(fail)
  obtain⟨u,aa⟩:=EX (w2.alloc (.cells Z5 5));obtain⟨d,K⟩:=EX w2.heap.size;have aM:TF w2 u:=by rw[aa];exact TA
  have aL:Sl u (· =d) 5 1 (.slice (some ⟨d,0,none⟩) N N) (o9 (F1 N (dF s (8*N) []))) N:=by rw[aa,aX.o,K,nP];exact rN N (LR A.o.2.2.2.2.2 (by decide)) w2 _ rfl
  rw[<-K,<-aa];have TW:Hid (TF w2 u∧d=w2.heap.size∧d<u.heap.size∧j.heap.size<=d):=i7 ⟨aM,K,by rw[aa,K];simp,by rw[K];exact U.o.size⟩;have B3:Hid (Dt s N c d u n (.int .i64 0) u):=⟨0,by have:=E.o;omega,rfl,by simpa using aL,TQ⟩;have ax:Hid (∀W,d7 (· =d) u W->d7 (fun b=>j.heap.size<=b) j W∧TF w W∧d7 (· =d) w2 W):=fun W t=>by have h0:=TW.o;have t1:d7 (· =d) w2 W:=(h0.1.mono fun _ _ z=>z.elim).tr t;have t2:d7 (fun b=>j.heap.size<=b) j W:=(U.o.mono fun _ _ z=>z.elim).tr (t1.mono fun i _ z=>by have:i=d:=z;omega);exact⟨t2,TV.o.comp t2 fun i hi z=>z.elim id fun z=>by have:=TV.o.size;omega,t1⟩
  have bc:Hid (wrap64 (8*(N:Int))=((8*N:Nat):Int)):=i7 (by have h1:=A.o.2.2.2.2.2;simp only[wrap64];omega);clear aa K aM aL a3 a4 ap aq ar d1 d2 y1 y2 y3;go_wp2;go_loopg[8] n (fun g iv wr=>Dt s N c d u g iv wr)
  case atStart=>exact B3.o
  case round=>
   obtain⟨i,aB,rfl,B,F⟩:=hrel;have GI:Hid (i+gk=c.length):=aB;have TT:Hid (d7 (· =d) u wr):=F;have aw:=i7 B;clear aB B F B3;obtain⟨q1,q2,q3⟩:=ax.o wr TT.o;by_cases r:i<n
   ·have e3:decide ((i:Int)<(n:Int))=true:=LX (by omega);have e4:decide (i<n)=true:=LX r;obtain⟨p,hp⟩:∃p,c[i]?=some p:=⟨_,LB (by rw[<-E.o];exact r)⟩;obtain⟨g,off,be,ad,-,-,-,ab,-,ac⟩:=SA.o.opens (by omega);simp only[Value.slice.injEq]at ad;obtain⟨rfl,-,-⟩:=ad;have ag:¬g=d:=by have:=TW.o.2.1;omega
    have D:w2.cell? ⟨g,off+i,none⟩=some (.string p):=by rw[ab i (by omega)];exact kX hp
    have R:Hid (c[i]?=some p∧i<n∧p.size<=1000000000):=i7 ⟨hp,r,P.o.2.2 p ((Q.o.2 p).1 (LI hp))⟩;have KS:Hid (∀W,d7 (· =d) u W->(W.cell? ⟨w.heap.size,0,none⟩=some (.int .i64 s.h)∧W.cell? ⟨w.heap.size,1,none⟩=some (.int .i64 s.p)∧W.cell? ⟨w.heap.size,2,none⟩=some (.int .i64 s.m)∧W.cell? ⟨w.heap.size,3,none⟩=some (.int .u32 s.seed)∧W.cell? ⟨g,off+i,none⟩=some (.string p))∧w.heap.size<W.heap.size∧g<W.heap.size):=i7 fun W t=>by obtain⟨r1,r2,r3⟩:=ax.o W t;obtain⟨⟨h0,h1,h2,h3,h4⟩,-⟩:=O.o W r1;exact⟨⟨h0,h1,h2,h3,m6 D r3 ag⟩,h4,LC ac r3.size⟩
    have av:Hid (∀W,CZ 274 #[.agg #[.int .i64 s.h,.int .i64 s.p,.int .i64 s.m,.int .u32 s.seed],.string p,.int .i64 (IntKind.i64.wrap (8*(N:Int)))] W (dY W (E3 (o0 s p (8*N))))):=i7 fun W=>by rw[show IntKind.i64.wrap (8*(N:Int))=((8*N:Nat):Int)by rw[IntKind.wrap_i64];have:=A.o.2.2.2.2.2;omega];exact kz s p (8*N) W P.o.2.1 R.o.2.2 P.o.1 (by have:=A.o;omega) (by have:=A.o;omega)
    have QD:Hid (d7 (· =d) u wr.drew):=i7 TT.o.draw;obtain⟨z0,z1,z2⟩:=KS.o wr TT.o;clear hp D ab ac ag q1 q2 q3 z0;go_wp2
    go_region_held3 (fun W=>W.cell? ⟨w.heap.size,0,none⟩=some (.int .i64 s.h)∧W.cell? ⟨w.heap.size,1,none⟩=some (.int .i64 s.p)∧W.cell? ⟨w.heap.size,2,none⟩=some (.int .i64 s.m)∧W.cell? ⟨w.heap.size,3,none⟩=some (.int .u32 s.seed)∧W.cell? ⟨g,off+i,none⟩=some (.string p))
     (first|(exact(KS.o _ QD.o).1)|(exact(KS.o _ Q5.o).1)|go_keep)
     (first|(go_fit(av.o _);rintro e5 w5⟨v5,rfl,am,an⟩;obtain⟨a5,c5,rfl,-,-⟩:=am.value;have Q5:Hid (d7 (· =d) u w5):=i7 (QD.o.tr (an.mono fun _ _ z=>z.elim));have P5:=i7 (And.intro am an);clear am an))
    obtain⟨pl,M⟩:=EX (o0 s p (8*N));have aG:pl.length<=16:=by rw[M];exact kp _ _ _
    have aU:Hid (∀x∈pl,x<8*N):=fun x hx=>by rw[M]at hx;exact lX hx
    have aT:Hid (pl=o0 s p (8*N)):=M;rw[<-M]at P5;obtain⟨I,hL5⟩:=EX ((E3 pl).length);have C:Hid (I=pl.length∧I=(E3 pl).length∧I<=16):=⟨by rw[hL5];simp[E3],hL5,by rw[hL5];simpa[E3]using aG⟩;rw[<-M,<-hL5];have B5:Hid (wu s N (c.take i) pl d w5 I (.int .i64 0) w5):=⟨0,by have:=C.o;omega,rfl,by rw[List.take_zero,nQ];exact(aw.o.turned (T:=fun _=>False) TD fun _ _ z=>z).turned P5.o.2 fun _ _ z=>z,TQ⟩;have aN:Hid (d<wr.drew.heap.size):=i7 (by have h1:=TW.o.2.2.1;have h2:=QD.o.size;omega);clear M aG hL5 av r;generalize wr=Wk at *;generalize a0:gk=Gk at *;clear a0;go_wp2;go_loopg[10] I (fun g iv wr=>wu s N (c.take i) pl d w5 g iv wr)
    case atStart=>exact B5.o
    case round=>
     clear B5;obtain⟨k,aC,rfl,B,F⟩:=hrel;have GK:Hid (k+gk=pl.length):=aC;have ah:=i7 B;have ae:Hid (d7 (· =d) w5 wr):=F;clear aC F;by_cases r:k<I
     ·obtain⟨x,hx⟩:∃x,pl[k]?=some x:=⟨_,LB (by rw[<-C.o.1];exact r)⟩;have HX:Hid (pl[k]?=some x∧x<8*N):=⟨hx,aU.o x (LI hx)⟩;obtain⟨g3,ba,bf,ad,a1,-,-,ab,-,ac⟩:=P5.o.1.opens (by rw[<-C.o.2.1];omega);simp only[Value.slice.injEq]at ad;obtain⟨rfl,-,-⟩:=ad;have ag:¬g3=d:=by have h1:=aN.o;omega
      have D:wr.cell? ⟨g3,ba+k,none⟩=some (.int .i64 (x:Nat)):=m6 (by rw[ab k (by rw[<-C.o.2.1];omega)];unfold E3;rw[List.getElem?_map,List.getElem?_map,hx];rfl) ae.o ag;have bk:g3<wr.heap.size:=LC ac ae.o.size;obtain⟨y,hy⟩:=EX (x / 8);obtain⟨t,ao⟩:=EX (x% 8);have a7:y<N:=by have:=HX.o.2;omega
      obtain⟨b,af⟩:=EX (X2 (iR s (8*N) (c.take i) (pl.take k)) y);have al:b<256:=by rw[af];exact lD _ _
      obtain⟨g2,bm,bg,aK,-,-,-,az,aA,bj⟩:=ah.o.opens (by have:=A.o.2.2.2.2.1;omega);simp only[Value.slice.injEq,Option.some.injEq,Addr.mk.injEq]at aK;obtain⟨⟨rfl,rfl,-⟩,-,rfl⟩:=aK;have V:wr.cell? ⟨d,y,none⟩=some (.int .u8 (b:Nat)):=by have:=az y (by omega);rw[Nat.zero_add]at this;rw[this];unfold o9;rw[List.getElem?_map,lW _ a7,<-af];simp[UInt8.toNat_ofNat',Nat.mod_eq_of_lt al]
      have f1:=aA y;have bl:t<8:=by omega
      have ai:Hid (y=x / 8∧t=x% 8∧b=X2 (iR s (8*N) (c.take i) (pl.take k)) y∧b<256):=⟨hy,ao,af,al⟩;obtain⟨ap,aq⟩:=dq y (by have:=A.o.2.2.2.2.2;omega);obtain⟨ar,a6⟩:=dq t (by omega);obtain⟨X,aj,ay,aY⟩:=DU x y t hy ao;rw[<-aj]at D;have bd:Hid (X=(x:Int)):=aj;clear hx ab ac aj hy ao af al az aA a1 B;obtain⟨bh,bi⟩:=jB X y ay ap aq;clear ay ar a6;rcases(show t=0∨t=1∨t=2∨t=3∨t=4∨t=5∨t=6∨t=7 by clear aY;omega)with rfl|rfl|rfl|rfl|rfl|rfl|rfl|rfl
      all_goals go_upto_region 14 with(fail)
      all_goals go_region
      all_goals go_wp2
      all_goals
       go_roundg (gk-1)
       case measure=>have:=GK.o;have:=C.o;omega
       case rel=>
        refine⟨k+1,by have:=GK.o;have:=C.o;omega,by have:=C.o;simp[wrap64];omega,?_,(ae.o.set (p:=⟨d,y,none⟩) rfl _).draw⟩;have Y:pl.take (k+1)=pl.take k++[x]:=by rw[List.take_add_one,HX.o.1];rfl
        rw[Y,<-nO];exact wt ah.o HX.o.2 ai.o.1 ai.o.2.1 ai.o.2.2.1 _ (by decide)
     ·have hk:pl.take k=pl:=LQ (by have:=C.o;omega);have a2:k=I:=by have:=GK.o;have:=C.o;omega
      have aQ:Hid (iR s (8*N) (c.take i) (pl.take k)=dF s (8*N) (c.take (i+1))):=i7 (by
       have Y:c.take (i+1)=c.take i++[p]:=by rw[List.take_add_one,R.o.1];rfl
       rw[hk,aT.o,rK,Y])
      clear hk r B;subst a2;go_wp2;go_roundg (Gk-1)
      case measure=>have:=GI.o;have:=R.o;have:=E.o;omega
      case rel=>exact⟨i+1,by have:=GI.o;have:=R.o;have:=E.o;omega,by have:=R.o;have:=Q.o;simp[wrap64];omega,by rw[<-aQ.o];exact ah.o,Q5.o.tr ae.o⟩
   ·have e3:decide ((i:Int)<(n:Int))=false:=LD (by omega);have e4:decide (i<n)=false:=LD r;have aJ:c.take i=c:=LQ (by have:=E.o;omega);have k0:=(O.o wr q1).2;have f0:=j7 k0 0;have f1:=j7 k0 1;have D:=g9 k0 0 _ rfl;have V:=g9 k0 1 _ rfl;have kl:=i6 k0;have aZ:=dJ (bs:=F1 N (dF s (8*N) (c.take i))) (by rw[dp];exact aw.o);rw[aJ]at aZ
    have aS:Hid (H3 s l=⟨1,⟨(F1 N (dF s (8*N) c)).toArray⟩⟩):=i7 (by
     have e0:(once l).length=n:=by rw[E.o];exact iE ND.o.1 Q.o.2
     have Y:ep s (once l).length=N:=by unfold ep;rw[e0,show s.p.toNat=G by have:=H.o.2.1;omega,<-A.o.1,<-A.o.2.2.1,<-A.o.2.2.2.1]
     rw[Y7 (by rw[au.o,e0];have:=aR.o;omega),Y,nR (lE (once_nodup l) ND.o.1 fun x=>by rw[once_mem,Q.o.2])])
    have HQ:Hid (TF w wr):=q2;clear k0 q1 q2 q3 aJ r;generalize(F1 N (dF s (8*N) c)).toArray=BB at *;have a8:wr.cell? ⟨w.heap.size+1,0,none⟩=some (.int .i64 0):=D;have a9:wr.cell? ⟨w.heap.size+1,1,none⟩=some (.string ⟨#[]⟩):=V;clear D V;go_simp;go_wp2;refine bodyPost_ret (v:=.tuple #[dZ ⟨1,⟨BB⟩⟩,.int .i64 0]) (by simp[results,Tryz.results251,go_sem,a8,a9,kl,f0,f1]) rfl ?_;rw[HZ.o];exact⟨by unfold qq;rw[if_pos P.o.1,aS.o],(HQ.o.fresh (Nat.le_succ _) _).fresh (Nat.le_succ _) _⟩
end Go.Proofs.YtofcogekgcgjhaaGreatDoor
