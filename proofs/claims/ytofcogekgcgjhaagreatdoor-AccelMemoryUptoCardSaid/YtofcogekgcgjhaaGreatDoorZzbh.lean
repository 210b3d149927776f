/- Packed. -/
import Derived.Test.YtofcogekgcgjhaaGreatDoorZzag
import Derived.Shelf.SortM.Plain
import Derived.Shelf.SortM.SortNone
set_option maxRecDepth 100000
set_option maxHeartbeats 8000000
namespace Go.Proofs.YtofcogekgcgjhaaGreatDoor
open Go.RowKit Go.Mine Go.Mine.Ac Go.Sort Go.Shelf
theorem BI(s:ByteArray):(⟨s.data.toList.toArray⟩:ByteArray)=s:=by simp
theorem jI{l:List ByteArray}(e:l.Nodup):((l.map (·.data.toList)).mergeSort fun x y=>decide (x<=y)).map (fun x=>(⟨x.toArray⟩:ByteArray))=Q4 l:=by
 have h:=List.mergeSort_perm (l.map (·.data.toList)) (fun x y=>decide (x<=y));have g:(l.map (·.data.toList)).map (fun x=>(⟨x.toArray⟩:ByteArray))=l:=by
  rw[List.map_map];have:((fun x:List UInt8=>(⟨x.toArray⟩:ByteArray)) ∘ fun s:ByteArray=>s.data.toList)=id:=by funext s;simp
  rw[this,List.map_id]
 have d:=h.map (fun x=>(⟨x.toArray⟩:ByteArray));rw[g]at d;refine qC e ?_ fun x=>d.mem_iff
 have i:=List.pairwise_mergeSort (le:=fun(x y:List UInt8)=>decide (x<=y)) (fun a b c h1 h2=>by simp only[decide_eq_true_eq]at *;exact Std.le_trans h1 h2) (fun a b=>by simp only[Bool.or_eq_true,decide_eq_true_eq];exact Std.le_total) (l.map (·.data.toList));have f:=(d.nodup_iff).2 e;rw[J1,List.pairwise_map];rw[List.nodup_iff_pairwise_ne,List.pairwise_map]at f;refine(i.and f).imp fun{a b}⟨h1,h2⟩=>?_
 simp only[en,decide_eq_true_eq]at *;rcases Std.le_iff_lt_or_eq.1 h1 with q|q
 ·exact q
 ·exact absurd (by rw[q]) h2
theorem pJ{w:World}{S:Nat->Prop}{v:Value}{l:List ByteArray}(h:Sl w S 9 1 v (l.map Value.string) l.length)(o:l.Nodup)(H:l.length<=1000000):
  CZ 99 #[v] w fun e w'=>e=.returned (.tuple #[])∧Sl w' S 9 1 v ((Q4 l).map Value.string) l.length∧d7 S w w':=by
 have i:(Q4 l).length=l.length:=by rw[<-jI o,List.length_map,List.length_mergeSort,List.length_map]
 rcases h.2 with⟨rfl,r⟩|⟨g,off,cap,c,rfl,d,b,h1,h2,h3,h4⟩
 ·have D:l=[]:=LO r;subst D;refine(AnyM.slices_Sort_string_none tz_ssort none 0 w).mono ?_;rintro e w'⟨rfl,rfl⟩;exact⟨rfl,h,TQ⟩
 ·have m:=i6 b;have p:∀(j:Nat)(s:ByteArray),l[j]?=some s->c[off+j]?=some (.string s):=fun j s a=>by have z:=(LA.1 a).1;have:=congrArg (fun x=>x[j]?) h4;simp only[List.getElem?_map,a,Option.map_some,List.getElem?_take,List.getElem?_drop,Nat.mul_one,z,if_true,Array.getElem?_toList]at this;exact this
  have t:Holds encStr w g off (l.map (·.data.toList)).toArray:=by
   intro j a;simp only[List.size_toArray,List.length_map]at a;have u:=LB a;refine⟨?_,j7 b _⟩;have hx:(l.map (·.data.toList)).toArray[j]! =l[j].data.toList:=by rw[getElem!_pos _ j (by simpa using a)];simp
   rw[hx];refine(g9 b _ _ (p j _ u)).trans ?_;show _=some (Value.string ⟨(l[j].data.toList).toArray⟩);rw[BI]
  have f:=AnyM.slices_Sort_string tz_ssort g off cap (l.map (·.data.toList)) w t m (by rw[List.length_map];omega);rw[List.length_map]at f;refine f.mono ?_;rintro e w'⟨rfl,n,os,rfl⟩;refine⟨rfl,?_,?_⟩
  ·refine⟨by rw[List.length_map,i];omega,.inr ⟨g,off,cap,putCells encStr off ((l.map (·.data.toList)).mergeSort fun x y=>decide (x<=y)).toArray c,rfl,d,?_,h1,h2,?_,?_⟩⟩
   ·have G:g<(putRow encStr (Sort.ahead w n) g off ((l.map (·.data.toList)).mergeSort fun x y=>decide (x<=y)).toArray).heap.size:=by unfold putRow mapBlock;simp only[Array.size_modify];exact m
    show(grow _ os).heap[g]?=_;unfold grow;simp only[];rw[Array.getElem?_append_left G];unfold putRow mapBlock;simp only[Array.getElem?_modify,if_true];have:(Sort.ahead w n).heap[g]?=some (.cells c 9 (0,0)):=b;rw[this];rfl
   ·unfold putCells;rw[Array.size_mapIdx];exact h3
   ·have C:((l.map (·.data.toList)).mergeSort fun x y=>decide (x<=y)).length=l.length:=by rw[List.length_mergeSort,List.length_map]
    apply List.ext_getElem?;intro j;rw[Nat.mul_one,List.getElem?_take];split
    ·rename_i a;have F:(Q4 l)[j]?=some (⟨(((l.map (fun s:ByteArray=>s.data.toList)).mergeSort fun x y=>decide (x<=y))[j]'(by omega)).toArray⟩:ByteArray):=by rw[<-jI o,List.getElem?_map,List.getElem?_eq_getElem (by omega)];rfl
     rw[List.getElem?_map,F,List.getElem?_drop,Array.getElem?_toList];unfold putCells;rw[Array.getElem?_mapIdx,Array.getElem?_eq_getElem (by omega)];simp only[Option.map_some,List.size_toArray,C];rw[if_pos ⟨by omega,by omega⟩,Nat.add_sub_cancel_left,getElem!_pos _ j (by simp;omega)];rfl
    ·rename_i a;rw[List.getElem?_eq_none (by rw[List.length_map,i];omega)]
  ·refine⟨rfl,rfl,rfl,?_,fun k A E=>?_⟩
   ·unfold grow putRow mapBlock Sort.ahead;simp
   ·have B:g≠k:=fun q=>E (q▸d)
    unfold grow putRow mapBlock;simp only[];rw[Array.getElem?_append_left (by simp only[Array.size_modify];exact A),Array.getElem?_modify,if_neg B];rfl
end Go.Proofs.YtofcogekgcgjhaaGreatDoor
