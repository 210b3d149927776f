/- Packed. -/
import Derived.Test.YtofcogekgcgjhaaGreatDoorZzaw
import Derived.StillTailTactics
set_option maxRecDepth 100000
set_option maxHeartbeats 8000000
namespace Go.Proofs.YtofcogekgcgjhaaGreatDoor
open Go.RowKit Go.Mine Go.Proofs.Tryz
def cL(w:World)(K:Nat->Prop)(n:Nat)(v:Nat->Value)(f:Nat->List UInt8):Prop:=∃own:Nat->Nat,(∀b,K b->n<=own b∧b<w.heap.size)∧∀i,i<n->Sl w (fun b=>own b=i∧b<w.heap.size) 5 1 (v i) (o9 (f i)) (f i).length
theorem cL.step{w:World}{K:Nat->Prop}{n:Nat}{v:Nat->Value}{f:Nat->List UInt8}(h:cL w K n v f)(i:Nat)(s:i<n):
  ∃S:Nat->Prop,Sl w S 5 1 (v i) (o9 (f i)) (f i).length∧(∀b,S b->¬K b)∧∀w' e a,Sl w' (F2 S w) 5 1 e (o9 a) a.length->d7 S w w'->cL w' K n (U1 v i e) (U1 f i a)∧d7 (fun b=>¬K b) w w':=by
 obtain⟨own,g,p⟩:=h;have l:∀b,own b=i∧b<w.heap.size->¬K b:=fun b q k=>by have:=(g b k).1;omega
 refine⟨fun b=>own b=i∧b<w.heap.size,p i s,l,fun w' e a h1 d=>⟨⟨fun b=>if b<w.heap.size then own b else i,fun b k=>?_,fun j t=>?_⟩,d.mono fun b _ q=>l b q⟩⟩
 ·have m:=g b k;have:=d.size;simp only[if_pos m.2];exact⟨m.1,by omega⟩
 ·by_cases c:j=i
  ·subst c;rw[N7,N7];refine(fP h1).widen fun b⟨q,r⟩=>⟨?_,r⟩
   by_cases o:b<w.heap.size
   ·simp only[if_pos o];rcases q with q|q
    ·exact q.1
    ·omega
   ·simp only[if_neg o]
  ·rw[db _ _ _ _ c,db _ _ _ _ c];refine((p j t).turned d fun b q z=>c (q.1.symm.trans z.1)).widen fun b q=>?_
   have:=d.size;simp only[if_pos q.2];exact⟨q.1,by omega⟩
theorem cL.turned{w w':World}{K:Nat->Prop}{n:Nat}{v:Nat->Value}{f:Nat->List UInt8}(h:cL w K n v f)(a:d7 (fun b=>K b) w w'):
  cL w' (fun b=>K b∨(w.heap.size<=b∧b<w'.heap.size)) n v f:=by
 obtain⟨own,c,g⟩:=h;refine⟨fun b=>if b<w.heap.size then own b else n,fun b k=>?_,fun j e=>?_⟩
 ·rcases k with k|k
  ·have d:=c b k;have:=a.size;simp only[if_pos d.2];exact⟨d.1,by omega⟩
  ·simp only[if_neg (show¬b<w.heap.size by omega)];exact⟨LS _,k.2⟩
 ·refine((g j e).turned a fun b q z=>by have:=(c b z).1;omega).widen fun b q=>?_
  have:=a.size;simp only[if_pos q.2];exact⟨q.1,by omega⟩
theorem cL.mono{w:World}{K a:Nat->Prop}{n:Nat}{v:Nat->Value}{f:Nat->List UInt8}(h:cL w K n v f)(c:∀b,a b->K b):cL w a n v f:=by obtain⟨own,h1,h2⟩:=h;exact⟨own,fun b q=>h1 b (c b q),h2⟩
theorem cL.later{w w':World}{K:Nat->Prop}{n:Nat}{v:Nat->Value}{f:Nat->List UInt8}(h:cL w K n v f)(a:TF w w'):cL w' K n v f:=(h.turned (a.mono fun _ _ q=>q.elim)).mono fun _ q=>.inl q
theorem cL.nil(w:World)(K:Nat->Prop)(a:∀b,K b->b<w.heap.size):cL w K 4 (fun _=>.slice none 0 0) (fun _=>[]):=⟨fun _=>4,fun b q=>⟨LS _,a b q⟩,fun c _=>Sl.nil _ _ _ _⟩
theorem cL.congr{w:World}{K:Nat->Prop}{n:Nat}{v c:Nat->Value}{f b:Nat->List UInt8}(h:cL w K n v f)(e:∀i,i<n->c i=v i)(d:∀i,i<n->b i=f i):cL w K n c b:=by obtain⟨own,h1,h2⟩:=h;exact⟨own,h1,fun i a=>by rw[e i a,d i a];exact h2 i a⟩
def eJ{α:Type}(a b c d:α):Nat->α
 |0=>a
 |1=>b
 |2=>c
 |_+3=>d
section
variable {α:Type} (a b c d x:α)
theorem quad0:U1 (eJ a b c d) 0 x=eJ x b c d:=by funext i;rcases i with _|_|_|i<;>simp[U1,eJ]
theorem quad1:U1 (eJ a b c d) 1 x=eJ a x c d:=by funext i;rcases i with _|_|_|i<;>simp[U1,eJ]
theorem quad2:U1 (eJ a b c d) 2 x=eJ a b x d:=by funext i;rcases i with _|_|_|i<;>simp[U1,eJ]
theorem DD(i:Nat)(e:i<4):U1 (eJ a b c d) 3 x i=eJ a b c x i:=by rcases i with _|_|_|_|i<;>first|(exfalso;omega)|simp[U1,eJ]
end
section
variable {w:World} {K:Nat->Prop} {va vb vc vd:Value} {R E N B:List UInt8} {ops:Array Oper} {rest:List Oper} {o:Oper} {a:Act} {Q:Exit->Act->World->Prop}
theorem cL.lens(h:cL w K 4 (eJ va vb vc vd) (eJ R E N B)):(∃p c,va=.slice p R.length c)∧(∃p c,vb=.slice p E.length c)∧(∃p c,vc=.slice p N.length c)∧∃p c,vd=.slice p B.length c:=by
 obtain⟨own,-,h⟩:=h;have q:∀i,i<4->∃p c,(eJ va vb vc vd) i=.slice p ((eJ R E N B) i).length c:=fun i a=>by obtain⟨p,c,e,-,-⟩:=(h i a).value;exact⟨p,c,e⟩
 exact⟨q 0 (by decide),q 1 (by decide),q 2 (by decide),q 3 (by decide)⟩
theorem cL.back(h:cL w K 4 (eJ va vb vc vd) (eJ R E N B))(W:World)(a:TF w W):
  (convert 83 9 va).run prog W=.ok (.string ⟨R.toArray⟩) W∧(convert 83 9 vb).run prog W=.ok (.string ⟨E.toArray⟩) W∧(convert 83 9 vc).run prog W=.ok (.string ⟨N.toArray⟩) W∧(convert 83 9 vd).run prog W=.ok (.string ⟨B.toArray⟩) W:=by
 obtain⟨own,-,h⟩:=h.later a;exact⟨dJ (h 0 (by decide)),dJ (h 1 (by decide)),dJ (h 2 (by decide)),dJ (h 3 (by decide))⟩
theorem fm(k:o.guard=none)(d e:Operand)(tx:TypeId){n:Nat}{v:Nat->Value}{f:Nat->List UInt8}
  (m:o.op=.call {callee:=.builtin .append,args:=#[d,e],argTypes:=#[83,tx]}) (h:cL w K n v f) (i:Nat) (l:i<n)
  (p:a.eval d=v i) (x:Value) (hx:a.eval e=x) (bs:List UInt8) (q:Src prog 1 tx x bs.length (o9 bs) w) (s:(f i).length+bs.length<=1099511627776)
  (j:∀c w',cL w' K n (U1 v i c) (U1 f i (f i++bs))->d7 (fun b=>¬K b) w w'->wpList prog ops Q rest (a.put o.dst c) w'):wpList prog ops Q (o::rest) a w:=by
 obtain⟨S,h1,h2,h3⟩:=h.step i l;refine m7 k d e 83 tx m h1 underlying83 info5 rfl (by decide) p x hx q (by simp only[maxLen];omega) (by omega) fun c w' g r=>?_
 rw[<-dT,<-List.length_append]at g;obtain⟨k1,k2⟩:=h3 w' c _ g r;exact j c w' k1 k2
def BT(K:Nat->Prop)(u w:World)(va vb vc vd:Value)(R E N B:List UInt8):Prop:=cL w K 4 (eJ va vb vc vd) (eJ R E N B)∧d7 (fun b=>¬K b) u w
variable {u w':World}
theorem BT.later(h:BT K u w va vb vc vd R E N B)(t:TF w w'):BT K u w' va vb vc vd R E N B:=⟨h.1.later t,h.2.tr (t.mono fun _ _ q=>q.elim)⟩
theorem BT.app0(h:BT K u w va vb vc vd R E N B)(g:o.guard=none)(c d:Operand)(tx:TypeId)(i:o.op=.call {callee:=.builtin .append,args:=#[c,d],argTypes:=#[83,tx]})(j:a.eval c=va){x:Value}(hx:a.eval d=x)(bs:List UInt8)(k:Src prog 1 tx x bs.length (o9 bs) w)(f:R.length+bs.length<=1099511627776)
  (e:∀b w',BT K u w' b vb vc vd (R++bs) E N B->wpList prog ops Q rest (a.put o.dst b) w'):wpList prog ops Q (o::rest) a w:=
 fm g c d tx i h.1 0 (by decide) j x hx bs k f fun b w' h1 t=>by rw[quad0,quad0]at h1;exact e b w' ⟨h1,h.2.tr t⟩
theorem BT.app1(h:BT K u w va vb vc vd R E N B)(g:o.guard=none)(c d:Operand)(tx:TypeId)(i:o.op=.call {callee:=.builtin .append,args:=#[c,d],argTypes:=#[83,tx]})(j:a.eval c=vb){x:Value}(hx:a.eval d=x)(bs:List UInt8)(k:Src prog 1 tx x bs.length (o9 bs) w)(f:E.length+bs.length<=1099511627776)
  (e:∀b w',BT K u w' va b vc vd R (E++bs) N B->wpList prog ops Q rest (a.put o.dst b) w'):wpList prog ops Q (o::rest) a w:=
 fm g c d tx i h.1 1 (by decide) j x hx bs k f fun b w' h1 t=>by rw[quad1,quad1]at h1;exact e b w' ⟨h1,h.2.tr t⟩
theorem BT.app2(h:BT K u w va vb vc vd R E N B)(g:o.guard=none)(c d:Operand)(tx:TypeId)(i:o.op=.call {callee:=.builtin .append,args:=#[c,d],argTypes:=#[83,tx]})(j:a.eval c=vc){x:Value}(hx:a.eval d=x)(bs:List UInt8)(k:Src prog 1 tx x bs.length (o9 bs) w)(f:N.length+bs.length<=1099511627776)
  (e:∀b w',BT K u w' va vb b vd R E (N++bs) B->wpList prog ops Q rest (a.put o.dst b) w'):wpList prog ops Q (o::rest) a w:=
 fm g c d tx i h.1 2 (by decide) j x hx bs k f fun b w' h1 t=>by rw[quad2,quad2]at h1;exact e b w' ⟨h1,h.2.tr t⟩
theorem BT.app3(h:BT K u w va vb vc vd R E N B)(j:o.guard=none)(d e:Operand)(tx:TypeId)(k:o.op=.call {callee:=.builtin .append,args:=#[d,e],argTypes:=#[83,tx]})(l:a.eval d=vd){x:Value}(hx:a.eval e=x)(bs:List UInt8)(m:Src prog 1 tx x bs.length (o9 bs) w)(g:B.length+bs.length<=1099511627776)
  (f:∀b w',BT K u w' va vb vc b R E N (B++bs)->wpList prog ops Q rest (a.put o.dst b) w'):wpList prog ops Q (o::rest) a w:=
 fm j d e tx k h.1 3 (by decide) l x hx bs m g fun b w' h1 t=>f b w' ⟨h1.congr (fun i c=>(DD _ _ _ _ _ i c).symm) fun i c=>(DD _ _ _ _ _ i c).symm,h.2.tr t⟩
end
theorem wY(w:World)(s:ByteArray):Src prog 1 9 (.string s) s.data.toList.length (o9 s.data.toList) w:=by have:=Src.ofString (P:=prog) w underlying9 s;rw[eN,<-uH]at this;exact this
theorem fn(w:World)(v n:Nat):Src prog 1 9 (.string ⟨(m9 v n).toArray⟩) (m9 v n).length (o9 (m9 v n)) w:=wY w ⟨(m9 v n).toArray⟩
theorem Ci(v:Nat)(a:v<256):m9 v 1=[UInt8.ofNat v]:=by simp[m9]
theorem AQ(w:World)(v:Nat)(a:v<256):Src prog 1 83 (.slice (some ⟨w.heap.size,0,none⟩) 1 1) (m9 v 1).length (o9 (m9 v 1)) (w.alloc (.cells #[.int .u8 v] 5)):=by
 have h:=R6 (P:=prog) (te:=5) underlying83 (.int .u8 v) rfl w;have e:o9 (m9 v 1)=[.int .u8 v]:=by rw[Ci v a];simp only[o9,List.map_cons,List.map_nil,List.cons.injEq,and_true];congr 1;simp[UInt8.toNat_ofNat'];omega
 rw[e,j6];exact h
theorem dA(k:Nat)(w:World)(a:k<4294967296):CZ 276 #[.int .i64 k] w (RT (.string ⟨(m9 k 4).toArray⟩) w):=by
 have b:CZ 245 #[.int .u64 k,.int .i64 4] w (RT (.string ⟨(m9 k 4).toArray⟩) w):=p5 k 4 w (by omega) (by decide);have d:((k:Nat):Int)% 18446744073709551616=(k:Int):=by omega
 generalize(⟨(m9 k 4).toArray⟩:ByteArray)=q at *;clear a;go_enter func276,ntmps276;go_wp2_with(go_fit b;rintro e w2⟨rfl,c⟩);go_ret;exact⟨rfl,c⟩
end Go.Proofs.YtofcogekgcgjhaaGreatDoor
namespace Go.Proofs.YtofcogekgcgjhaaGreatDoor
open Go.RowKit Go.Mine Go.Proofs.Tryz
def wZ(r:Rw)(i:Nat):List UInt8:=if i=r.par.length then L8 r else gI ((r.par.drop 1).take (i-1))
theorem AR(r:Rw)(i y:Nat)(h1:1<=i)(b:2<r.par.length)(a:r.par[i]?=some (y:Int)):wZ r (i+1)=wZ r i++m9 (if i+1=r.par.length then y+2147483648 else y) 4:=by
 have c:=(LA.1 a).1;unfold wZ;rw[if_neg (show¬i=r.par.length by omega)];by_cases h:i+1=r.par.length
 ·rw[if_pos h,if_pos h];unfold L8;rw[if_pos b,show r.par.length-1=i by omega,a,show r.par.length-2=i-1 by omega];simp
 ·rw[if_neg h,if_neg h,show i+1-1=i-1+1 by omega,nT _ (i-1) (y:Int) (by rw[List.getElem?_drop,show 1+(i-1)=i by omega];exact a)];simp
theorem lg(k:Nat)(h:k<18446744073709551616):IntKind.u64.wrap (k:Int)=(k:Int):=by simp[IntKind.wrap,IntKind.bits,IntKind.signed];omega
def vR(r:Rw):Nat:=if r.par.length=2 then(r.par[1]?.getD 0).toNat else 4294967295
theorem tm(S0:Nat->Prop)(a:Option Addr)(cap:Nat)(g:Gr)(w:World)(h0:N0 w S0 a cap g.rows)(aU:iF g)(hg:Y2 g)(hB:¬4194304<(n9 g.rows).B.length):
  CZ 197 #[xG a cap g] w (RT (iV g) w):=by
 obtain⟨L,hL⟩:=EX g.rows.length;have HL:Hid (L=g.rows.length):=hL;have ab:=ui S0 a cap g (w.alloc (.cells #[.int .i64 g.base,.int .i64 g.h,.int .i64 g.p,.int .i64 g.m,.int .u32 g.seed,.slice a g.rows.length cap] 123)) (h0.turned (d7.alloc (fun _=>False) w _) fun _ _ q=>q) hg;unfold xG at ab ⊢;rw[<-hL]at ab ⊢;obtain⟨⟨n1,n2,n3⟩,⟨s1,s2,s3,s4,s5,s6⟩,aW⟩:=id hg;rw[<-hL]at n3;obtain⟨u,ah⟩:∃k:Nat,g.base=(k:Int):=⟨g.base.toNat,by omega⟩;obtain⟨n,aw⟩:∃k:Nat,g.h=(k:Int):=⟨g.h.toNat,by omega⟩;obtain⟨v,aA⟩:∃k:Nat,g.p=(k:Int):=⟨g.p.toNat,by omega⟩;obtain⟨A,ay⟩:∃k:Nat,g.m=(k:Int):=⟨g.m.toNat,by omega⟩;obtain⟨C,aj⟩:=EX g.seed;have br:C<4294967296:=by rw[aj];exact aU.2.2.2.2
 have HH:Hid (fZ g=m9 u 4++m9 L 4++m9 n 1++m9 v 1++m9 A 2++m9 C 4):=i7 (by unfold fZ;rw[ah,aw,aA,ay,<-hL,<-aj];simp);have ag:Hid (iV g=s7 (H6 g)∧(n9 g.rows).B.length<=4194304):=i7 ⟨by unfold iV;rw[if_pos (jw hg),if_neg hB],by omega⟩;have al:Hid (H6 g=[(1,⟨(fZ g).toArray⟩),(2,⟨(n9 g.rows).R.toArray⟩),(3,⟨(n9 g.rows).E.toArray⟩),(4,⟨(n9 g.rows).N.toArray⟩),(5,⟨(n9 g.rows).B.toArray⟩)]):=rfl;have GR:Hid (∀(i:Nat)(r:Rw),g.rows[i]?=some r->ft r ((u:Int)+i)∧((u:Int)+i)<=131072):=i7 fun i r hr=>by rw[<-ah];refine⟨aW i r hr,?_⟩;have:=(LA.1 hr).1;omega
 rw[ah,aw,aA,ay,<-aj]at ab ⊢;have NB:Hid (u<=65536∧L<=65536∧n<=16∧v<=64∧A<=512∧C<4294967296):=i7 (by omega);have HI:Hid (N0 w (fun b=>b<w.heap.size) a cap g.rows):=h0.bound;generalize iV g=EV at *;generalize fZ g=HB at *;generalize H6 g=CG at *;generalize g.rows=rows at *;clear ah aw aA ay aj hL h0 aU hg hB n1 n2 n3 s1 s2 s3 s4 s5 s6 aW br;have nb:=NB.o;have u3:((n:Nat):Int)% 18446744073709551616=(n:Int):=by omega
 have u4:((v:Nat):Int)% 18446744073709551616=(v:Int):=by omega
 have u5:((A:Nat):Int)% 18446744073709551616=(A:Int):=by omega
 have u6:((C:Nat):Int)% 18446744073709551616=(C:Int):=by omega
 have f1:∀W,CZ 276 #[.int .i64 u] W (RT (.string ⟨(m9 u 4).toArray⟩) W):=fun W=>dA u W (by omega)
 have f2:∀W,CZ 276 #[.int .i64 L] W (RT (.string ⟨(m9 L 4).toArray⟩) W):=fun W=>dA L W (by omega)
 have f3:∀W,CZ 245 #[.int .u64 (IntKind.u64.wrap (n:Nat)),.int .i64 1] W (RT (.string ⟨(m9 n 1).toArray⟩) W):=fun W=>by rw[lg n (by omega)];exact p5 n 1 W (by omega) (by decide)
 have f4:∀W,CZ 245 #[.int .u64 (IntKind.u64.wrap (v:Nat)),.int .i64 1] W (RT (.string ⟨(m9 v 1).toArray⟩) W):=fun W=>by rw[lg v (by omega)];exact p5 v 1 W (by omega) (by decide)
 have f5:∀W,CZ 245 #[.int .u64 (IntKind.u64.wrap (A:Nat)),.int .i64 2] W (RT (.string ⟨(m9 A 2).toArray⟩) W):=fun W=>by rw[lg A (by omega)];exact p5 A 2 W (by omega) (by decide)
 have f6:∀W,CZ 245 #[.int .u64 (IntKind.u64.wrap (C:Nat)),.int .i64 4] W (RT (.string ⟨(m9 C 4).toArray⟩) W):=fun W=>by rw[lg C (by omega)];exact p5 C 4 W (by omega) (by decide)
 have a1:=I6 (m9 u 4) (m9 L 4) (by simp[j6]);have a2:=I6 (m9 u 4++m9 L 4) (m9 n 1) (by simp[j6]);have a3:=I6 (m9 u 4++m9 L 4++m9 n 1) (m9 v 1) (by simp[j6]);have a4:=I6 (m9 u 4++m9 L 4++m9 n 1++m9 v 1) (m9 A 2) (by simp[j6]);have a5:=I6 (m9 u 4++m9 L 4++m9 n 1++m9 v 1++m9 A 2) (m9 C 4) (by simp[j6]);rw[<-HH.o]at a5;generalize(⟨(m9 u 4++m9 L 4++m9 n 1++m9 v 1++m9 A 2).toArray⟩:ByteArray)=t4 at *;generalize(⟨(m9 u 4++m9 L 4++m9 n 1++m9 v 1).toArray⟩:ByteArray)=t3 at *;generalize(⟨(m9 u 4++m9 L 4++m9 n 1).toArray⟩:ByteArray)=t2 at *;generalize(⟨(m9 u 4++m9 L 4).toArray⟩:ByteArray)=t1 at *;generalize(⟨(m9 u 4).toArray⟩:ByteArray)=n1 at *;generalize(⟨(m9 L 4).toArray⟩:ByteArray)=n2 at *;generalize(⟨(m9 n 1).toArray⟩:ByteArray)=n3 at *;generalize(⟨(m9 v 1).toArray⟩:ByteArray)=n4 at *;generalize(⟨(m9 A 2).toArray⟩:ByteArray)=n5 at *;generalize(⟨(m9 C 4).toArray⟩:ByteArray)=n6 at *;obtain⟨hb,av⟩:∃hb:ByteArray,hb=⟨HB.toArray⟩:=⟨_,rfl⟩;have a9:Hid (hb=⟨HB.toArray⟩):=av;rw[<-av]at a5;clear nb av u3 u4 u5 u6;go_enter func197,ntmps197;go_wp2_with(go_fit ab;rintro e O⟨rfl,aE⟩;have Z:Hid (O.heap[w.heap.size]?=some (.cells #[.int .i64 u,.int .i64 n,.int .i64 v,.int .i64 A,.int .u32 C,.slice a L cap] 123)∧TF w O):=⟨j9 (i8 w _) aE id,TA.tr aE⟩;have x1:=g9 Z.o.1 1 _ rfl;have x2:=g9 Z.o.1 2 _ rfl;have x3:=g9 Z.o.1 3 _ rfl;have x4:=g9 Z.o.1 4 _ rfl;have xl:=i6 Z.o.1;clear aE);obtain⟨w2,aZ⟩:=EX (O.alloc (.cells #[.int .i64 n,.int .i64 v,.int .i64 A,.int .u32 C] 24));obtain⟨q1,q2⟩:=A0 (w:=O) (.cells #[.int .i64 n,.int .i64 v,.int .i64 A,.int .u32 C] 24);rw[<-aZ]at q1 q2 ⊢;have P:Hid (∀W,TF w2 W->W.heap[w.heap.size]?=some (.cells #[.int .i64 u,.int .i64 n,.int .i64 v,.int .i64 A,.int .u32 C,.slice a L cap] 123)∧TF w W):=i7 fun W t=>⟨j9 Z.o.1 (q1.tr t) id,Z.o.2.tr (q1.trans t fun _ _ q=>q)⟩
 have KS:Hid (∀W,TF w2 W->TF w2 W∧W.cell? ⟨w.heap.size,0,none⟩=some (.int .i64 u)∧W.cell? ⟨w.heap.size,5,none⟩=some (.slice a L cap)∧W.cell? ⟨O.heap.size,0,none⟩=some (.int .i64 n)∧W.cell? ⟨O.heap.size,1,none⟩=some (.int .i64 v)∧W.cell? ⟨O.heap.size,2,none⟩=some (.int .i64 A)∧W.cell? ⟨O.heap.size,3,none⟩=some (.int .u32 C)):=i7 fun W t=>by have h1:=(P.o W t).1;have h2:=j9 q2 t id;exact⟨t,g9 h1 0 _ rfl,g9 h1 5 _ rfl,g9 h2 0 _ rfl,g9 h2 1 _ rfl,g9 h2 2 _ rfl,g9 h2 3 _ rfl⟩
 clear aZ x1 x2 x3 x4 xl q1 q2 ab;generalize O.heap.size=b1 at *;obtain⟨_,y1,y2,y3,y4,y5,y6⟩:=KS.o w2 TQ
 go_region_held3 (fun W=>TF w2 W∧W.cell? ⟨w.heap.size,0,none⟩=some (.int .i64 u)∧W.cell? ⟨w.heap.size,5,none⟩=some (.slice a L cap)∧W.cell? ⟨b1,0,none⟩=some (.int .i64 n)∧W.cell? ⟨b1,1,none⟩=some (.int .i64 v)∧W.cell? ⟨b1,2,none⟩=some (.int .i64 A)∧W.cell? ⟨b1,3,none⟩=some (.int .u32 C))
  (first|(exact KS.o _ TD)|(exact KS.o _ (by assumption))|go_keep)
  (first
   |(go_fit(f1 _);rintro e v1⟨rfl,J⟩;have V1:TF w2 v1:=TD.tr J)
   |(go_fit(f2 _);rintro e v2⟨rfl,J⟩;have V2:=V1.tr J)
   |(go_fit(f3 _);rintro e v3⟨rfl,J⟩;have V3:=V2.tr J)
   |(go_fit(f4 _);rintro e v4⟨rfl,J⟩;have V4:=V3.tr J)
   |(go_fit(f5 _);rintro e v5⟨rfl,J⟩;have V5:=V4.tr J)
   |(go_fit(f6 _);rintro e D⟨rfl,J⟩;have V6:=V5.tr J))
 go_wp2;have Y:Hid (TF w D∧D.heap[w.heap.size]?=some (.cells #[.int .i64 u,.int .i64 n,.int .i64 v,.int .i64 A,.int .u32 C,.slice a L cap] 123)):=⟨(P.o D V6).2,(P.o D V6).1⟩;have HS:Hid (BT (fun b=>b<D.heap.size) D D (.slice none 0 0) (.slice none 0 0) (.slice none 0 0) (.slice none 0 0) [] [] [] []):=⟨(cL.nil D _ fun _ q=>q).congr (fun i hi=>by rcases i with _|_|_|i<;>rfl) (fun i hi=>by rcases i with _|_|_|i<;>rfl),TQ⟩;clear y1 y2 y3 y4 y5 y6 f1 f2 f3 f4 f5 f6 a1 a2 a3 a4 a5 KS P;go_loopg[6,7,8,9,10] L (fun g va vb vc vd i wr=>∃j:Nat,j+g=L∧i=.int .i64 j∧BT (fun b=>b<D.heap.size) D wr va vb vc vd (n9 (rows.take j)).R (n9 (rows.take j)).E (n9 (rows.take j)).N (n9 (rows.take j)).B)
 case atStart=>exact⟨0,Nat.zero_add _,rfl,HS.o⟩
 case round=>
  obtain⟨j,aR,rfl,U⟩:=hrel;have G:Hid (j+gk=L):=aR;have WS:Hid (BT (fun b=>b<D.heap.size) D wr u6 u7 u8 u9 (n9 (rows.take j)).R (n9 (rows.take j)).E (n9 (rows.take j)).N (n9 (rows.take j)).B):=U;have aG:=j9 Y.o.2 U.2 fun q=>q (i6 Y.o.2)
  have aJ:=g9 aG 5 _ rfl;have aK:=i6 aG;have aX:=U.2.size;clear aR U HS aG;by_cases bm:j<L
  ·obtain⟨r,hr⟩:∃r,rows[j]?=some r:=⟨_,LB (by rw[<-HL.o];exact bm)⟩;obtain⟨S,bk⟩:=GR.o j r hr;have bc:Hid (wrap64 ((j:Int)+1)=((j+1:Nat):Int)):=i7 (EC (j+1) (by have:=NB.o;have:=G.o;omega));have hE:=kV (rows.take j) fun x hx=>by obtain⟨i,hi⟩:=LM (LY hx);exact(GR.o i x hi).1.1
   have hR:=kT (rows.take j);have hN:=kU (rows.take j);have bt:(rows.take j).length<=65536:=by have:=NB.o;have:=HL.o;simp only[List.length_take];omega
   have aD:=me rows j r hr;have az:=cY rows (j+1);have ao:=LR (cY rows j) ag.o.2;obtain⟨s0,s2,bj⟩:=fY S.2.2.2.2.2.2;obtain⟨K,aF⟩:∃k:Nat,r.tree=(k:Int):=⟨r.tree.toNat,by have:=S.2.1;omega⟩;obtain⟨H,au⟩:∃k:Nat,r.gen=(k:Int):=⟨r.gen.toNat,by have:=S.2.2.2.1;omega⟩;obtain⟨rs,aC⟩:∃k:Nat,r.state=(k:Int):=⟨r.state.toNat,by omega⟩;have RB:Hid (K<65536∧H<=1023∧rs<=2):=i7 (by have:=S.2.2.1;have:=S.2.2.2.2.1;omega);have aV:=N2 S.2.2.2.2.2.1;have HP:Hid (∀x∈r.par,0<=x∧x<131072):=i7 fun x hx=>by have:=aV x hx;omega
   have ba:Hid (r.par.length<=16):=S.1;obtain⟨b,off,rfl,hS,aM,ra,ae,aQ,c0,c1,c2,c3,c4⟩:=dM ((HI.o.turned Y.o.1 fun _ _ q=>q).turned WS.o.2 fun b q z=>z (LC q Y.o.1.size)) j r hr;rw[aF]at c1;rw[au]at c2;rw[aC]at c3;obtain⟨d,am⟩:=EX r.par.length;have F:Hid (d=r.par.length):=am;rw[<-am]at c0;obtain⟨u0,ak⟩:=EX (wr.alloc (.cells #[.slice ra d ae,.int .i64 K,.int .i64 H,.int .i64 rs,.string r.bits] 48));have bb:Hid (u0=wr.alloc (.cells #[.slice ra d ae,.int .i64 K,.int .i64 H,.int .i64 rs,.string r.bits] 48)):=ak;obtain⟨ac,ar⟩:=A0 (w:=wr) (.cells #[.slice ra d ae,.int .i64 K,.int .i64 H,.int .i64 rs,.string r.bits] 48);rw[<-ak]at ac ar;have bw:u0.heap.size=wr.heap.size+1:=by rw[ak];simp
   obtain⟨K2,aa⟩:∃K2:Nat->Prop,K2=fun b=>b<D.heap.size∨(wr.heap.size<=b∧b<u0.heap.size):=⟨_,rfl⟩
   generalize bu:n9 (rows.take j)=c at *;have B0:Hid (BT K2 u0 u0 u6 u7 u8 u9 c.R c.E c.N c.B):=i7 ⟨by rw[aa];exact WS.o.1.turned (ac.mono fun _ _ q=>q.elim),TQ⟩;have Q:Hid (∀W,d7 (fun b=>¬K2 b) u0 W->(W.cell? ⟨wr.heap.size,0,none⟩=some (.slice ra d ae)∧W.cell? ⟨wr.heap.size,1,none⟩=some (.int .i64 K)∧W.cell? ⟨wr.heap.size,2,none⟩=some (.int .i64 H)∧W.cell? ⟨wr.heap.size,3,none⟩=some (.int .i64 rs)∧W.cell? ⟨wr.heap.size,4,none⟩=some (.string r.bits)∧wr.heap.size<W.heap.size)∧p7 W (fun b=>b<w.heap.size) ra ae r.par):=i7 fun W t=>by
    have h1:=j9 ar t fun q=>q (by rw[aa];exact .inr ⟨LS _,by omega⟩)
    exact⟨⟨g9 h1 0 _ rfl,g9 h1 1 _ rfl,g9 h1 2 _ rfl,g9 h1 3 _ rfl,g9 h1 4 _ rfl,i6 h1⟩,(aQ.turned ac fun _ _ q=>q).turned t fun b q z=>z (by rw[aa];exact .inl (LC q Y.o.1.size))⟩
   have a8:Hid (∀W va vb vc vd R E N B,BT K2 u0 W va vb vc vd R E N B->BT (fun b=>b<D.heap.size) D W va vb vc vd R E N B):=i7 fun W va vb vc vd R E N B h=>
    ⟨h.1.mono fun b q=>by rw[aa];exact .inl q,WS.o.2.comp (ac.comp h.2 (T:=fun b=>¬b<D.heap.size) fun b _ q=>q.elim (fun q=>q.elim) fun q k=>q (by rw[aa];exact .inl k)) fun b _ q=>q.elim id id⟩
   obtain⟨-,⟨pb,cb,aY⟩,-⟩:=B0.o.1.lens;obtain⟨M,ai⟩:=EX ((c.B++r.bits.data.toList).length);have bl:M<=4194304:=by rw[aD]at az;rw[ai];exact LR az ag.o.2
   have bd:Hid (M=(c.B++r.bits.data.toList).length):=ai;obtain⟨m,hm⟩:=EX c.E.length;rw[<-hm]at aY;subst aY;have HM:Hid (m=c.E.length):=hm
   have I:Hid (c.R.length<=1048576∧c.E.length<=4194304∧c.N.length<=262144∧c.B.length+r.bits.size<=4198400∧I7 r<4294967296∧E6 r m<4294967296):=i7 (by
    refine⟨by omega,by omega,by omega,by omega,?_,?_⟩
    ·unfold I7;split
     ·omega
     ·rename_i p l hp;have:=HP.o p (by rw[hp];simp);omega
    ·unfold E6;split
     ·omega
     ·split
      ·rename_i hp;obtain⟨x,V,hx⟩:=kS hp;have:=HP.o V (by rw[hx];simp);rw[hx];show V.toNat<_;omega
      ·omega)
   have d9:decide ((4194304:Int)<(M:Int))=false:=LD (by omega);have d8:decide (4194304<M)=false:=LD (by omega);have g1:∀W,CZ 276 #[.int .i64 K] W (RT (.string ⟨(m9 K 4).toArray⟩) W):=fun W=>dA K W (by have:=RB.o;omega)
   have g2:∀W,CZ 276 #[.int .i64 (I7 r:Nat)] W (RT (.string ⟨(m9 (I7 r) 4).toArray⟩) W):=fun W=>dA _ W I.o.2.2.2.2.1
   have g3:∀W,CZ 276 #[.int .i64 (E6 r m:Nat)] W (RT (.string ⟨(m9 (E6 r m) 4).toArray⟩) W):=fun W=>dA _ W I.o.2.2.2.2.2
   have g4:∀W,CZ 245 #[.int .u64 H,.int .i64 2] W (RT (.string ⟨(m9 H 2).toArray⟩) W):=fun W=>p5 H 2 W (by have:=RB.o;omega) (by decide)
   have g5:∀W,CZ 276 #[.int .i64 M] W (RT (.string ⟨(m9 M 4).toArray⟩) W):=fun W=>dA M W (by omega)
   have bI:((H:Nat):Int)% 18446744073709551616=(H:Int):=by have:=RB.o;omega
   have bJ:((rs:Nat):Int)% 256=(rs:Int):=by have:=RB.o;omega
   have bf:Hid (n9 (rows.take (j+1))=⟨c.R++m9 K 4++m9 (I7 r) 4++m9 (E6 r m) 4++m9 H 2++m9 rs 1,c.E++L8 r,c.N++m9 M 4,c.B++r.bits.data.toList⟩):=i7 (by rw[aD];unfold N8 kI;rw[aF,au,aC,<-ai,<-hm];simp only[List.append_assoc,Int.toNat_natCast]);clear hr S bk hE hR hN bt aD az ao bj ai bu aF au aC s0 s2 aV ar ac bw aa ak bl am hm aX aQ;obtain⟨⟨e0,-,-,-,-,el⟩,-⟩:=Q.o u0 B0.o.2;go_upto_if 64 with fail
   rw[<-bb.o];go_cut[12]from 49 to 147 (fun f wx=>f=.int .i64 (I7 r:Nat)∧u0=wx)
   case first=>
    by_cases h0:d=0
    ·have d0:decide ((0:Int)<(d:Int))=false:=LD (by omega);have F0:Hid (I7 r=4294967295):=i7 (by unfold I7;rw[List.eq_nil_of_length_eq_zero (F.o.symm.trans h0)]);go_wp2_with fail;go_meet
     case rel=>exact⟨by rw[F0.o];rfl,rfl⟩
    ·obtain⟨x,hx⟩:∃x,r.par[0]?=some x:=⟨_,LB (by have:=F.o;omega)⟩;have ad:=HP.o x (LI hx);obtain⟨y,rfl⟩:∃y:Nat,x=(y:Int):=⟨x.toNat,by omega⟩;obtain⟨g,bg,rfl,-,aO,cc⟩:=B8 (Q.o u0 B0.o.2).2 0 (y:Int) hx;rw[Nat.add_zero]at cc;have F0:Hid (I7 r=y):=i7 (nU hx);have d0:decide ((0:Int)<(d:Int))=true:=LX (by omega);have d1:decide (0<d)=true:=LX (by omega);clear hx ad;go_wp2_with fail;go_meet
     case rel=>exact⟨by rw[F0.o],rfl⟩
   case rest=>
   obtain⟨rfl,rfl⟩:=hcut;go_upto_if 72 with fail
   go_cut[13]from 49 to 147 (fun s wx=>s=.int .i64 (vR r:Nat)∧u0=wx)
   case first=>
    by_cases h2:d=2
    ·obtain⟨x,V,hx⟩:∃x V,r.par=[x,V]:=kS (F.o.symm.trans h2);have ad:=HP.o V (by rw[hx];simp);obtain⟨y,rfl⟩:∃y:Nat,V=(y:Int):=⟨V.toNat,by omega⟩;obtain⟨g,bg,rfl,-,aO,cc⟩:=B8 (Q.o u0 B0.o.2).2 1 (y:Int) (by rw[hx];rfl);have F0:Hid (vR r=y):=i7 (by unfold vR;rw[hx];simp);have d0:=oS (d:Int) 2 (by omega);have d1:decide (1<d)=true:=LX (by omega);have d2:decide ((1:Int)<(d:Int))=true:=LX (by omega);clear hx ad;go_wp2_with fail;go_meet
     case rel=>exact⟨by rw[F0.o],rfl⟩
    ·have d0:=iG (d:Int) 2 (by omega);have F0:Hid (vR r=4294967295):=i7 (by unfold vR;rw[if_neg fun z=>h2 (F.o.trans z)]);go_wp2_with fail;go_meet
     case rel=>exact⟨by rw[F0.o];rfl,rfl⟩
   case rest=>
   obtain⟨rfl,rfl⟩:=hcut;go_upto_if 80 with fail
   go_cut[7,13]from 49 to 147 (fun vb s wx=>s=.int .i64 (E6 r m:Nat)∧BT K2 u0 wx u6 vb u8 u9 c.R (c.E++L8 r) c.N c.B)
   case first=>
    by_cases h3:2<d
    ·have d2:decide ((2:Int)<(d:Int))=true:=LX (by omega);obtain⟨q4,aB⟩:=EX (m / 4);have bo:((m:Nat):Int) / 4=(q4:Int):=by omega
     have bp:q4<=4194304:=by rw[aB];exact LR (Nat.div_le_self _ _) (LR (Nat.le_of_eq HM.o) I.o.2.1)
     have F0:Hid (E6 r m=2147483648+q4):=i7 (by unfold E6;rw[if_pos (by have:=F.o;omega),aB]);have HX:Hid (2<d∧d<=16):=i7 ⟨h3,by have:=ba.o;have:=F.o;omega⟩;have E1:Hid (wZ r 1=[]):=i7 (by unfold wZ;rw[if_neg (by have:=F.o;omega)];simp[gI]);clear aB h3;rw[d2];go_wp2;clear bo bp;obtain⟨wo,rfl⟩:∃x:World,x=wr:=⟨wr,rfl⟩;clear e0 el aJ aK aM c0 c1 c2 c3 c4;go_loopg[7,14] (d-1) (fun gg vb i wr=>∃k:Nat,1<=k∧k+gg=d∧i=.int .i64 k∧BT K2 u0 wr u6 vb u8 u9 c.R (c.E++wZ r k) c.N c.B)
     case atStart=>exact⟨1,LS _,by have:=HX.o;omega,rfl,by rw[E1.o,List.append_nil];exact B0.o⟩
     case round=>
      obtain⟨k,aS,aT,rfl,ap⟩:=hrel;have GK:Hid (1<=k∧k+gk=d):=⟨aS,aT⟩;have P:Hid (BT K2 u0 wr u6 u7 u8 u9 c.R (c.E++wZ r k) c.N c.B):=ap;obtain⟨⟨e0,-,-,-,-,el⟩,aP⟩:=Q.o wr ap.2;clear aS aT ap;by_cases bH:k<d
      ·obtain⟨x,hx⟩:∃x,r.par[k]?=some x:=⟨_,LB (by have:=F.o;omega)⟩;have ad:=HP.o x (LI hx);obtain⟨z,rfl⟩:∃y:Nat,x=(y:Int):=⟨x.toNat,by omega⟩;obtain⟨g',bE,rfl,-,aO,cc⟩:=B8 aP k (z:Int) hx;have NX:Hid (wZ r (k+1)=wZ r k++m9 (if k+1=r.par.length then z+2147483648 else z) 4):=AR r k z GK.o.1 (by have:=HX.o;have:=F.o;omega) hx;have ZB:Hid (z<131072):=i7 (by omega)
       have aI:Hid ((c.E++wZ r k).length<=8388608):=i7 (by
        have h1:=I.o;have h3:=HX.o;have h4:(wZ r k).length<=64:=by have:=F.o;unfold wZ;rw[if_neg (by omega),fX];simp only[List.length_take,List.length_drop];omega
        rw[List.length_append];omega)
       clear hx ad aP;have bi:∃X,X=(if k+1=r.par.length then z+2147483648 else z)∧X<4294967296:=⟨_,rfl,by have:=ZB.o;split<;>omega⟩;obtain⟨X,hX,an⟩:=bi;rw[<-hX]at NX;have g7:=fun W=>dA X W an
       have zb:=ZB.o;have bF:d<=16:=HX.o.2;by_cases ax:k+1=d
       ·have hd:=oS ((k:Int)+1) (d:Int) (by omega);have hz:(z:Int)+2147483648=(X:Int):=by rw[hX,if_pos (F.o▸ax)];simp
        clear hX an ax
        go_wp2_with(first
         |(go_fit(g7 _);rintro e x1⟨rfl,t⟩;have B1:=P.o.later t;clear t)
         |(at_builtin;refine B1.app1 rfl (.tmp 105) (.tmp 107) 9 rfl rfl rfl (m9 X 4) (fn _ _ _) (by have:=aI.o;simp only[j6];omega) ?_;intro z7 x2 B2))
        go_roundg (gk-1)
        case measure=>have:=GK.o;omega
        case rel=>exact⟨k+1,by omega,by have:=GK.o;omega,by simp,by rw[NX.o,<-List.append_assoc];exact B2⟩
       ·have hd:=iG ((k:Int)+1) (d:Int) (by omega);rw[if_neg (F.o▸ax)]at hX;subst hX;have bG:¬(k:Int)+1=(d:Int):=by omega
        clear an
        go_wp2_with(first
         |(go_fit(g7 _);rintro e x1⟨rfl,t⟩;have B1:=P.o.later t;clear t)
         |(at_builtin;refine B1.app1 rfl (.tmp 105) (.tmp 107) 9 rfl rfl rfl (m9 X 4) (fn _ _ _) (by have:=aI.o;simp only[j6];omega) ?_;intro z7 x2 B2))
        go_roundg (gk-1)
        case measure=>have:=GK.o;omega
        case rel=>exact⟨k+1,by omega,by have:=GK.o;omega,by simp,by rw[NX.o,<-List.append_assoc];exact B2⟩
      ·have hk:wZ r k=L8 r:=by unfold wZ;rw[if_pos (by have:=GK.o;have:=F.o;omega)]
       have a0:Hid (BT K2 u0 wr u6 u7 u8 u9 c.R (c.E++L8 r) c.N c.B):=i7 (by rw[<-hk];exact P.o);clear hk;go_wp2_with fail;go_meet
       case rel=>exact⟨by rw[F0.o];simp,a0.o⟩
    ·have d2:decide ((2:Int)<(d:Int))=false:=LD (by omega);have F0:Hid (E6 r m=vR r∧L8 r=[]):=i7 ⟨by unfold E6 vR;rw[if_neg (by have:=F.o;omega)],by unfold L8;rw[if_neg (by have:=F.o;omega)]⟩;go_wp2_with fail;go_meet
     case rel=>exact⟨by rw[F0.o.1],by rw[F0.o.2,List.append_nil];exact B0.o⟩
   case rest=>
   obtain⟨rfl,C0⟩:=hcut;clear e0 el aJ aK aM c0 c1 c2 c3 c4;obtain⟨⟨-,e1,-,-,-,el⟩,-⟩:=Q.o wc C0.2;generalize I7 r=fN at *;generalize E6 r m=sN at *
   go_wp2_with(first
    |(go_fit(g1 _);rintro e c1⟨rfl,t⟩;have C1:=C0.later t;clear t)
    |(at_builtin;refine C1.app0 rfl (.tmp 109) (.tmp 112) 9 rfl rfl rfl (m9 K 4) (fn _ _ _) (by have:=I.o;simp only[j6];omega) ?_;intro d2 c2 C2)
    |(go_fit(g2 _);rintro e c3⟨rfl,t⟩;have C3:=C2.later t;clear t)
    |(at_builtin;refine C3.app0 rfl (.tmp 114) (.tmp 116) 9 rfl rfl rfl (m9 fN 4) (fn _ _ _) (by have:=I.o;simp only[List.length_append,j6];omega) ?_;intro d4 c4 C4)
    |(go_fit(g3 _);rintro e c5⟨rfl,t⟩;have C5:=C4.later t;clear t)
    |(at_builtin;refine C5.app0 rfl (.tmp 118) (.tmp 120) 9 rfl rfl rfl (m9 sN 4) (fn _ _ _) (by have:=I.o;simp only[List.length_append,j6];omega) ?_;intro d6 c6 C6;obtain⟨⟨-,-,e2,-,-,el⟩,-⟩:=Q.o c6 C6.2)
    |(go_fit(g4 _);rintro e c7⟨rfl,t⟩;have C7:=C6.later t;clear t)
    |(at_builtin;refine C7.app0 rfl (.tmp 122) (.tmp 126) 9 rfl rfl rfl (m9 H 2) (fn _ _ _) (by have:=I.o;simp only[List.length_append,j6];omega) ?_;intro d8 c8 C8;obtain⟨⟨-,-,-,e3,-,bC⟩,-⟩:=Q.o c8 C8.2)
    |(at_builtin;refine(C8.later TA).app0 rfl (.tmp 128) (.tmp 133) 83 rfl rfl rfl (m9 rs 1) (AQ _ _ (by have:=RB.o;omega)) (by have:=I.o;simp only[List.length_append,j6];omega) ?_;intro d9 c9 C9;obtain⟨⟨-,-,-,-,e4,bD⟩,-⟩:=Q.o c9 C9.2)
    |(at_builtin;refine C9.app3 rfl (.tmp 135) (.tmp 138) 9 rfl rfl rfl r.bits.data.toList (wY _ _) (by have:=I.o;rw[uH];omega) ?_;intro bB bx aH;obtain⟨-,-,-,pz,cz,aN⟩:=aH.1.lens;rw[<-bd.o]at aN;subst aN)
    |(go_fit(g5 _);rintro e bz⟨rfl,t⟩;have a6:=aH.later t;clear t)
    |(at_builtin;refine a6.app2 rfl (.tmp 140) (.tmp 143) 9 rfl rfl rfl (m9 M 4) (fn _ _ _) (by have:=I.o;simp only[j6];omega) ?_;intro d12 bA a7))
   go_roundg (gk-1)
   case measure=>have:=G.o;omega
   case rel=>exact⟨j+1,by have:=G.o;omega,bc.o▸rfl,by rw[bf.o];exact a8.o _ _ _ _ _ _ _ _ _ a7⟩
  ·have U:=WS.o;rw[List.take_of_length_le (by have:=HL.o;omega)]at U;have bq:rows.length<=65536:=by have:=NB.o;have:=HL.o;omega
   have ao:=ag.o.2;have hE:=kV rows fun x hx=>by obtain⟨i,hi⟩:=LM hx;exact(GR.o i x hi).1.1
   have hR:=kT rows;have hN:=kU rows;have bh:HB.length<=100:=by rw[HH.o];simp[j6]
   obtain⟨k1,k2,k3,k4⟩:=U.1.back wr TQ;have aq:=un _ _ _ _ (nV wr ⟨HB.toArray⟩ ⟨(n9 rows).R.toArray⟩ ⟨(n9 rows).E.toArray⟩ ⟨(n9 rows).N.toArray⟩ ⟨(n9 rows).B.toArray⟩ ⟨by rw[G6];omega,by rw[G6];omega,by rw[G6];omega,by rw[G6];omega,by rw[G6];omega⟩);rw[<-al.o,<-a9.o,show CG.length=5 by rw[al.o];rfl]at aq;have af:=ag.o.1;obtain⟨bs,be,aL⟩:∃s e,s7 CG=.tuple #[.string s,.int .i64 e]:=by
    unfold s7;split
    ·exact⟨_,_,rfl⟩
    ·exact⟨_,_,rfl⟩
   rw[aL]at aq af;replace af:=i7 af;clear U bq ao hE hR hN bh aL al aX;generalize(⟨(n9 rows).R.toArray⟩:ByteArray)=q1 at *;generalize(⟨(n9 rows).E.toArray⟩:ByteArray)=q2 at *;generalize(⟨(n9 rows).N.toArray⟩:ByteArray)=q3 at *;generalize(⟨(n9 rows).B.toArray⟩:ByteArray)=q4 at *;go_wp2_with(go_fit aq;rintro e z2⟨rfl,bv⟩);go_ret2;exact⟨by rw[af.o];rfl,Y.o.1.comp ((WS.o.2.new _).comp bv (T:=fun b=>¬b<D.heap.size) fun b hb q=>q.elim id fun q=>q.elim) (T:=fun _=>False) fun b hb q=>q.elim id fun q=>q (LC hb Y.o.1.size)⟩
end Go.Proofs.YtofcogekgcgjhaaGreatDoor
