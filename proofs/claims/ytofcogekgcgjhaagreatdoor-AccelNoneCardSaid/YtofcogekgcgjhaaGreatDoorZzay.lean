/- Packed. -/
import Derived.Test.YtofcogekgcgjhaaGreatDoorZzaj
set_option linter.unusedVariables false
set_option linter.unusedSimpArgs false
set_option maxRecDepth 100000
namespace Go.Mine.Ac
open Go.Mine
def byteP (P:Nat→Bool) (j:Nat):Nat:=(List.range 8).foldl (fun v k=>if P (8 * j+k) then v+2 ^ k else v) 0
theorem byteP_eq (P:Nat→Bool) (j:Nat):byteP P j=(P (8 * j)).toNat+2 * (P (8 * j+1)).toNat+4 * (P (8 * j+2)).toNat+8 * (P (8 * j+3)).toNat+16 * (P (8 * j+4)).toNat+32 * (P (8 * j+5)).toNat+64 * (P (8 * j+6)).toNat+128 * (P (8 * j+7)).toNat:=by
 unfold byteP
 simp only [List.range,List.range.loop,List.foldl,Nat.add_zero]
 generalize P (8 * j)=b0
 generalize P (8 * j+1)=b1
 generalize P (8 * j+2)=b2
 generalize P (8 * j+3)=b3
 generalize P (8 * j+4)=b4
 generalize P (8 * j+5)=b5
 generalize P (8 * j+6)=b6
 generalize P (8 * j+7)=b7
 revert b0 b1 b2 b3 b4 b5 b6 b7
 decide +kernel
theorem byteP_lt (P:Nat→Bool) (j:Nat):byteP P j<256:=by
 rw [byteP_eq]
 have h:∀ b:Bool,b.toNat≤1:=by decide
 have h0:=h (P (8 * j));have h1:=h (P (8 * j+1));have h2:=h (P (8 * j+2));have h3:=h (P (8 * j+3))
 have h4:=h (P (8 * j+4));have h5:=h (P (8 * j+5));have h6:=h (P (8 * j+6));have h7:=h (P (8 * j+7))
 omega
theorem or_bits:∀ (b0 b1 b2 b3 b4 b5 b6 b7:Bool) (k:Fin 8),(b0.toNat+2 * b1.toNat+4 * b2.toNat+8 * b3.toNat+16 * b4.toNat+32 * b5.toNat+64 * b6.toNat+128 * b7.toNat) ||| (2 ^ k.val) =
  ((b0 || k.val == 0).toNat+2 * (b1 || k.val == 1).toNat+4 * (b2 || k.val == 2).toNat+8 * (b3 || k.val == 3).toNat+16 * (b4 || k.val == 4).toNat+32 * (b5 || k.val == 5).toNat+64 * (b6 || k.val == 6).toNat+128 * (b7 || k.val == 7).toNat):=by
 decide +kernel
theorem byteP_or (P:Nat→Bool) (a:Nat):byteP P (a / 8) ||| 2 ^ (a % 8)=byteP (fun i=>P i || i == a) (a / 8):=by
 rw [byteP_eq,byteP_eq]
 have h:=or_bits (P (8 * (a / 8))) (P (8 * (a / 8)+1)) (P (8 * (a / 8)+2)) (P (8 * (a / 8)+3)) (P (8 * (a / 8)+4)) (P (8 * (a / 8)+5)) (P (8 * (a / 8)+6)) (P (8 * (a / 8)+7)) ⟨a % 8,Nat.mod_lt _ (by omega)⟩
 have e:∀ i,i<8→((8 * (a / 8)+i == a)=(a % 8 == i)):=fun i hi=>by
  rw [Bool.eq_iff_iff]
  simp only [beq_iff_eq]
  omega
 have e0:(8 * (a / 8) == a)=(a % 8 == 0):=e 0 (by omega)
 rw [h,e0,e 1 (by omega),e 2 (by omega),e 3 (by omega),e 4 (by omega),e 5 (by omega),e 6 (by omega),e 7 (by omega)]
theorem byteP_other (P:Nat→Bool) (a j:Nat) (h:j≠a / 8):byteP (fun i=>P i || i == a) j=byteP P j:=by
 have e:∀ i,i<8→(8 * j+i == a)=false:=fun i hi=>by simp only [beq_eq_false_iff_ne];omega
 have e0:(8 * j == a)=false:=e 0 (by omega)
 rw [byteP_eq,byteP_eq]
 simp only [e0,e 1 (by omega),e 2 (by omega),e 3 (by omega),e 4 (by omega),e 5 (by omega),e 6 (by omega),e 7 (by omega),Bool.or_false]
def bytesP (n:Nat) (P:Nat→Bool):List Nat:=(List.range n).map (byteP P)
theorem bytesP_len (n:Nat) (P:Nat→Bool):(bytesP n P).length=n:=by simp [bytesP]
theorem bytesP_get {n j:Nat} (P:Nat→Bool) (h:j<n):(bytesP n P)[j]? = some (byteP P j):=by simp [bytesP,h]
theorem bytesP_set {n a:Nat} (P:Nat→Bool) (h:a<8 * n):(bytesP n P).set (a / 8) (byteP P (a / 8) ||| 2 ^ (a % 8))=bytesP n (fun i=>P i || i == a):=by
 apply List.ext_getElem?
 intro j
 rw [byteP_or]
 by_cases hj:j<n
 ·rw [bytesP_get _ hj, List.getElem?_set]
  split
  ·rename_i q
   subst q
   rw [if_pos (by rw [bytesP_len];exact hj)]
  ·rename_i q
   rw [bytesP_get _ hj,byteP_other P a j (fun z=>q z.symm)]
 ·rw [List.getElem?_eq_none (by rw [List.length_set,bytesP_len];omega),List.getElem?_eq_none (by rw [bytesP_len];omega)]
theorem bytesP_none (n:Nat):bytesP n (fun _=>false)=List.replicate n 0:=by
 unfold bytesP
 rw [List.eq_replicate_iff]
 refine ⟨by simp,?_⟩
 intro b hb
 obtain ⟨j,-,rfl⟩:=List.mem_map.1 hb
 rw [byteP_eq]
 rfl
theorem bitsB_bytes (n:Nat) (P:Nat→Bool):bitsB n P=⟨((bytesP n P).map UInt8.ofNat).toArray⟩:=by
 unfold bitsB bytesP byteP
 rw [List.map_map]
 rfl
/-! ### Texts,each once -/
theorem once_mem:∀ {l:List ByteArray} {x:ByteArray},x∈once l↔x∈l
 | [],x=>by simp [once]
 |y :: l,x=>by
  rw [once]
  split
  ·rename_i h
   rw [once_mem]
   rw [List.any_eq_true]at h
   obtain ⟨z,hz,e⟩:=h
   have:z=y:=by simpa using e
   subst this
   constructor
   ·exact List.mem_cons_of_mem _
   ·intro q
    rcases List.mem_cons.1 q with rfl|q
    ·exact hz
    ·exact q
  ·rw [List.mem_cons,List.mem_cons,once_mem]
theorem once_nodup:∀ (l:List ByteArray),(once l).Nodup
 | []=>by simp [once]
 |y :: l=>by
  rw [once]
  split
  ·exact once_nodup l
  ·rename_i h
   rw [List.nodup_cons]
   refine ⟨fun q=>?_,once_nodup l⟩
   rw [once_mem]at q
   apply h
   rw [List.any_eq_true]
   exact ⟨y,q,by simp⟩
theorem nodup_perm {l m:List ByteArray} (h1:l.Nodup) (h2:m.Nodup) (h:∀ x,x∈l↔x∈m):l.Perm m:=(List.perm_ext_iff_of_nodup h1 h2).2 h
theorem once_len {l m:List ByteArray} (h1:m.Nodup) (h:∀ x,x∈m↔x∈l):(once l).length=m.length:=
 (nodup_perm (once_nodup l) h1 fun x=>by rw [once_mem,h]).length_eq
/-! ### How two trees differ -/
structure Dc where
 path:ByteArray
 old:Nat
 new:Nat
def diffC:List Ent→List Ent→List Dc
 | [],b=>b.map fun y=>⟨y.1,0,y.2⟩
 |x :: a,[]=>(x :: a).map fun y=>⟨y.1,y.2,0⟩
 |x :: a,y :: b=>
  if ltB x.1 y.1 then ⟨x.1,x.2,0⟩ :: diffC a (y :: b)
  else if ltB y.1 x.1 then ⟨y.1,0,y.2⟩ :: diffC (x :: a) b
  else if x.2=y.2 then diffC a b else ⟨x.1,x.2,y.2⟩ :: diffC a b
termination_by a b=>a.length+b.length
theorem diffP_eq (a b:List Ent):diffP a b=(diffC a b).map (·.path):=by
 fun_induction diffP a b with
 |case1 b=>simp [diffC]
 |case2 x a=>simp [diffC]
 |case3 x a y b h ih=>rw [diffC,if_pos h,List.map_cons,ih]
 |case4 x a y b h1 h2 ih=>rw [diffC,if_neg h1,if_pos h2,List.map_cons,ih]
 |case5 x a y b h1 h2 h3 ih=>rw [diffC,if_neg h1,if_neg h2,if_pos h3,ih]
 |case6 x a y b h1 h2 h3 ih=>rw [diffC,if_neg h1,if_neg h2,if_neg h3,List.map_cons,ih]
theorem diffC_len (a b:List Ent):(diffC a b).length≤a.length+b.length:=by
 fun_induction diffC a b <;> simp only [List.length_cons,List.length_map,List.length_nil]at * <;> omega
end Go.Mine.Ac
