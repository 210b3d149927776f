/- Packed. -/
import Derived.Test.YtofcogekgcgjhaaGreatDoorZzaf
set_option maxRecDepth 100000
namespace Go.Mine.Ac
open Go.Mine
def X2(P:Nat->Bool)(j:Nat):Nat:=(List.range 8).foldl (fun v k=>if P (8*j+k)then v+2^k else v) 0
theorem ex(P:Nat->Bool)(j:Nat):X2 P j=(P (8*j)).toNat+2*(P (8*j+1)).toNat+4*(P (8*j+2)).toNat+8*(P (8*j+3)).toNat+16*(P (8*j+4)).toNat+32*(P (8*j+5)).toNat+64*(P (8*j+6)).toNat+128*(P (8*j+7)).toNat:=by unfold X2;simp only[List.range,List.range.loop,List.foldl,Nat.add_zero];generalize P (8*j)=a;generalize P (8*j+1)=b1;generalize P (8*j+2)=b2;generalize P (8*j+3)=b3;generalize P (8*j+4)=b;generalize P (8*j+5)=c;generalize P (8*j+6)=d;generalize P (8*j+7)=e;revert a b1 b2 b3 b c d e;decide+kernel
theorem lD(P:Nat->Bool)(j:Nat):X2 P j<256:=by
 rw[ex];have h:∀b:Bool,b.toNat<=1:=by decide
 have a:=h (P (8*j));have h1:=h (P (8*j+1));have h2:=h (P (8*j+2));have h3:=h (P (8*j+3));have h4:=h (P (8*j+4));have c:=h (P (8*j+5));have d:=h (P (8*j+6));have e:=h (P (8*j+7));omega
theorem or_bits:∀(a b1 b2 b3 b c d e:Bool)(k:Fin 8),(a.toNat+2*b1.toNat+4*b2.toNat+8*b3.toNat+16*b.toNat+32*c.toNat+64*d.toNat+128*e.toNat) |||(2^k.val)=
  ((a ||k.val==0).toNat+2*(b1 ||k.val==1).toNat+4*(b2 ||k.val==2).toNat+8*(b3 ||k.val==3).toNat+16*(b ||k.val==4).toNat+32*(c ||k.val==5).toNat+64*(d ||k.val==6).toNat+128*(e ||k.val==7).toNat):=by
 decide+kernel
theorem zC(P:Nat->Bool)(a:Nat):X2 P (a / 8) |||2^(a% 8)=X2 (fun i=>P i ||i==a) (a / 8):=by
 rw[ex,ex];have h:=or_bits (P (8*(a / 8))) (P (8*(a / 8)+1)) (P (8*(a / 8)+2)) (P (8*(a / 8)+3)) (P (8*(a / 8)+4)) (P (8*(a / 8)+5)) (P (8*(a / 8)+6)) (P (8*(a / 8)+7)) ⟨a% 8,Nat.mod_lt _ (by omega)⟩;have e:∀i,i<8->((8*(a / 8)+i==a)=(a% 8==i)):=fun i c=>by rw[Bool.eq_iff_iff];simp only[beq_iff_eq];omega
 have b:(8*(a / 8)==a)=(a% 8==0):=e 0 (by omega);rw[h,b,e 1 (by omega),e 2 (by omega),e 3 (by omega),e 4 (by omega),e 5 (by omega),e 6 (by omega),e 7 (by omega)]
theorem ri(P:Nat->Bool)(a j:Nat)(h:j≠a / 8):X2 (fun i=>P i ||i==a) j=X2 P j:=by
 have e:∀i,i<8->(8*j+i==a)=false:=fun i c=>by simp only[beq_eq_false_iff_ne];omega
 have b:(8*j==a)=false:=e 0 (by omega);rw[ex,ex];simp only[b,e 1 (by omega),e 2 (by omega),e 3 (by omega),e 4 (by omega),e 5 (by omega),e 6 (by omega),e 7 (by omega),Bool.or_false]
def dm(n:Nat)(P:Nat->Bool):List Nat:=(List.range n).map (X2 P)
theorem eS(n:Nat)(P:Nat->Bool):(dm n P).length=n:=by simp[dm]
theorem ii{n j:Nat}(P:Nat->Bool)(h:j<n):(dm n P)[j]?=some (X2 P j):=by simp[dm,h]
theorem ug{n a:Nat}(P:Nat->Bool)(h:a<8*n):(dm n P).set (a / 8) (X2 P (a / 8) |||2^(a% 8))=dm n (fun i=>P i ||i==a):=by
 apply List.ext_getElem?;intro j;rw[zC];by_cases b:j<n
 ·rw[ii _ b,List.getElem?_set];split
  ·rename_i q;subst q;rw[if_pos (by rw[eS];exact b)]
  ·rename_i q;rw[ii _ b,ri P a j (fun z=>q z.symm)]
 ·rw[List.getElem?_eq_none (by rw[List.length_set,eS];omega),List.getElem?_eq_none (by rw[eS];omega)]
theorem rj(n:Nat):dm n (fun _=>false)=List.replicate n 0:=by unfold dm;rw[List.eq_replicate_iff];refine⟨by simp,?_⟩;intro b a;obtain⟨j,-,rfl⟩:=List.mem_map.1 a;rw[ex];rfl
theorem rk(n:Nat)(P:Nat->Bool):vW n P=⟨((dm n P).map UInt8.ofNat).toArray⟩:=by unfold vW dm X2;rw[List.map_map];rfl
theorem once_mem:∀{l:List ByteArray}{x:ByteArray},x∈once l↔x∈l
 | [],x=>by simp[once]
 |y::l,x=>by
  rw[once];split
  ·rename_i h;rw[once_mem];rw[List.any_eq_true]at h;obtain⟨z,a,e⟩:=h;have:z=y:=by simpa using e
   subst this;constructor
   ·exact LP _
   ·intro q;rcases List.mem_cons.1 q with rfl|q
    ·exact a
    ·exact q
  ·rw[List.mem_cons,List.mem_cons,once_mem]
theorem once_nodup:∀(l:List ByteArray),(once l).Nodup
 | []=>by simp[once]
 |y::l=>by
  rw[once];split
  ·exact once_nodup l
  ·rename_i h;rw[List.nodup_cons];refine⟨fun q=>?_,once_nodup l⟩;rw[once_mem]at q;apply h;rw[List.any_eq_true];exact⟨y,q,by simp⟩
theorem lE{l m:List ByteArray}(h1:l.Nodup)(h2:m.Nodup)(h:∀x,x∈l↔x∈m):l.Perm m:=(List.perm_ext_iff_of_nodup h1 h2).2 h
theorem iE{l m:List ByteArray}(h1:m.Nodup)(h:∀x,x∈m↔x∈l):(once l).length=m.length:=(lE (once_nodup l) h1 fun x=>by rw[once_mem,h]).length_eq
structure Dc where
 path:ByteArray
 old:Nat
 new:Nat
def diffC:List Ent->List Ent->List Dc
 | [],b=>b.map fun y=>⟨y.1,0,y.2⟩
 |x::a,[]=>(x::a).map fun y=>⟨y.1,y.2,0⟩
 |x::a,y::b=>
  if ei x.1 y.1 then⟨x.1,x.2,0⟩::diffC a (y::b)
  else if ei y.1 x.1 then⟨y.1,0,y.2⟩::diffC (x::a) b
  else if x.2=y.2 then diffC a b else⟨x.1,x.2,y.2⟩::diffC a b
termination_by a b=>a.length+b.length
theorem rn(a b:List Ent):diffP a b=(diffC a b).map (·.path):=by
 fun_induction diffP a b with
 |case1 b=>simp[diffC]
 |case2 x a=>simp[diffC]
 |case3 x a y b h c=>rw[diffC,if_pos h,List.map_cons,c]
 |case4 x a y b h1 h2 c=>rw[diffC,if_neg h1,if_pos h2,List.map_cons,c]
 |case5 x a y b h1 h2 h3 c=>rw[diffC,if_neg h1,if_neg h2,if_pos h3,c]
 |case6 x a y b h1 h2 h3 c=>rw[diffC,if_neg h1,if_neg h2,if_neg h3,List.map_cons,c]
theorem gC(a b:List Ent):(diffC a b).length<=a.length+b.length:=by fun_induction diffC a b<;>simp only[List.length_cons,List.length_map,List.length_nil]at * <;>omega
end Go.Mine.Ac
