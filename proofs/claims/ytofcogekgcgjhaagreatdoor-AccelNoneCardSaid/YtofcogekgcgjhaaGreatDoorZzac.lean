/- Packed. -/
import Derived.Test.YtofcogekgcgjhaaGreatDoorZzaa
import Derived.Deep.AppendSrc
import Derived.Deep.Upon
import Derived.Test.YtofcogekgcgjhaaGreatDoorProg
import Derived.KernelRfl
import Derived.Test.YtofcogekgcgjhaaGreatDoorZzab
import Derived.Deep.LoopGhost
import Derived.Deep.MidRow
import Derived.Deep.WholeRow
import Derived.Laws.BitsAllLaws
set_option linter.unusedVariables false
set_option linter.unusedSimpArgs false
set_option maxRecDepth 100000
namespace Go.Mine
open Go.MapKept
def Sl (w:World) (S:Nat→Prop) (e:TypeId) (size:Nat) (v:Value) (xs:List Value) (n:Nat):Prop:=
 xs.length=n * size∧((v = .slice none 0 0∧n=0) ∨
  ∃ g off cap cur,v = .slice (some ⟨g,off,none⟩) n cap∧S g∧w.heap[g]? = some (.cells cur e (0,0))∧n≤cap∧cap≤maxLen∧off+cap * size≤cur.size∧(cur.toList.drop off).take (n * size)=xs)
theorem Sl.nil (w:World) (S:Nat→Prop) (e:TypeId) (size:Nat):Sl w S e size (.slice none 0 0) [] 0:=⟨by simp,.inl ⟨rfl,rfl⟩⟩
theorem Sl.turned {w w' : World} {S T:Nat→Prop} {e:TypeId} {size:Nat} {v:Value} {xs:List Value} {n:Nat} (h:Sl w S e size v xs n) (ht:Turned T w w') (hS:∀ b,S b→¬ T b):Sl w' S e size v xs n:=by
 refine ⟨h.1,?_⟩
 rcases h.2 with h|⟨g,off,cap,cur,h1,h2,h3,h4⟩
 ·exact .inl h
 ·exact .inr ⟨g,off,cap,cur,h1,h2,(ht.block g (lt_of_block h3) (hS g h2)).trans h3,h4⟩
theorem Sl.widen {w:World} {S T:Nat→Prop} {e:TypeId} {size:Nat} {v:Value} {xs:List Value} {n:Nat} (h:Sl w S e size v xs n) (hS:∀ b,S b→T b):Sl w T e size v xs n:=by
 refine ⟨h.1,?_⟩
 rcases h.2 with h|⟨g,off,cap,cur,h1,h2,h3⟩
 ·exact .inl h
 ·exact .inr ⟨g,off,cap,cur,h1,hS g h2,h3⟩
theorem Sl.drew {w:World} {S:Nat→Prop} {e:TypeId} {size:Nat} {v:Value} {xs:List Value} {n:Nat} (h:Sl w S e size v xs n):Sl w.drew S e size v xs n:=h
theorem Sl.opens {w:World} {S:Nat→Prop} {e:TypeId} {size:Nat} {v:Value} {xs:List Value} {n:Nat} (h:Sl w S e size v xs n) (hn:0<n) :
  ∃ g off cap,v = .slice (some ⟨g,off,none⟩) n cap∧S g∧n≤cap∧cap≤maxLen∧(∀ j,j<n * size→w.cell? ⟨g,off+j,none⟩=xs[j]?)∧(∀ j,w.frozen? ⟨g,j,none⟩=false)∧g<w.heap.size:=by
 rcases h.2 with ⟨_,h⟩|⟨g,off,cap,cur,h1,h2,h3,h4,h5,h6,h7⟩
 ·omega
 ·refine ⟨g, off, cap, h1, h2, h4, h5, fun j hj => ?_, fun j => free_of h3 j, lt_of_block h3⟩
  rw [←h7,List.getElem?_take,if_pos hj,List.getElem?_drop]
  simp [World.cell?,h3]
theorem Sl.value {w:World} {S:Nat→Prop} {e:TypeId} {size:Nat} {v:Value} {xs:List Value} {n:Nat} (h:Sl w S e size v xs n):∃ a cap,v = .slice a n cap∧n≤cap∧cap≤maxLen:=by
 rcases h.2 with ⟨h1,rfl⟩|⟨g,off,cap,cur,h1,h2,h3,h4,h5,_⟩
 ·exact ⟨_,_,h1,Nat.le_refl _,by simp [maxLen]⟩
 ·exact ⟨_,_,h1,h4,h5⟩
def splice (l:List Value) (o:Nat) (vs:List Value):List Value:=l.take o ++ vs ++ l.drop (o+vs.length)
theorem splice_length {l:List Value} {o:Nat} {vs:List Value} (h:o+vs.length≤l.length):(splice l o vs).length=l.length:=by simp [splice];omega
theorem splice_cons {l:List Value} {o:Nat} {v:Value} {r:List Value} (h:o<l.length):splice (l.set o v) (o+1) r=splice l o (v :: r):=by
 unfold splice
 rw [List.take_add_one,List.getElem?_set_self h,List.take_set_of_le (Nat.le_refl o),List.drop_set_of_lt (by omega)]
 simp [Nat.add_comm 1,Nat.add_assoc]
theorem heap_setCells_same (b:Nat) (e:TypeId):∀ (vs:List Value) (o:Nat) (w:World) (cur:Array Value),w.heap[b]? = some (.cells cur e (0,0))→o+vs.length≤cur.size →
  (w.setCells b o vs).heap[b]? = some (.cells (splice cur.toList o vs).toArray e (0,0))
 | [],o,w,cur,h,hl=>by simp [World.setCells,splice,h]
 |v :: r,o,w,cur,h,hl=>by
  simp only [List.length_cons]at hl
  have h1:=Go.Mine.heap_setCell_same (o:=o) h v
  rw [World.setCells,heap_setCells_same b e r (o+1) _ _ h1 (by simp;omega)]
  rw [Array.toList_setIfInBounds,splice_cons (by simp;omega)]
theorem Turned.setCells {S:Nat→Prop} (b:Nat) (hS:S b):∀ (vs:List Value) (o:Nat) (w:World),Turned S w (w.setCells b o vs)
 | [],_,w=>Turned.refl S w
 |v :: r,o,w=>by
  rw [World.setCells]
  exact (Turned.setCell (p:=⟨b,o,none⟩) hS v).trans (Turned.setCells b hS r (o+1) _) fun _ _ q=>q
def More (S:Nat→Prop) (w:World) (b:Nat):Prop:=S b∨w.heap.size≤b
section
variable {P:Program} {w:World} {S:Nat→Prop} {e t tx:TypeId} {size bytes:Nat} {v x z:Value} {xs news:List Value} {n m:Nat} {i:TypeInfo}
theorem Sl.append (h:Sl w S e size v xs n) (ht:P.underlying t=some (.slice e)) (hi:P.info? e=some i) (hz:i.zero=some z) (hsize:i.size=size) (hby:i.bytes=bytes) (hzs:z.cells.size=size) (_hs0:0<size)
  (hsrc:Src P size tx x m news w) (h63:n+m≤maxLen) (hbytes:(n+m) * bytes≤140737488355328) (ty:TypeId) :
  ∃ v' w',(Builtin.append_ #[t,tx] ty #[v,x]).run P w = .ok v' w'∧Sl w' (More S w) e size v' (xs ++ news) (n+m)∧Turned S w w':=by
 subst hsize
 subst hby
 have hlen:(xs ++ news).length=(n+m) * i.size:=by rw [List.length_append,h.1,hsrc.newsLen,Nat.add_mul]
 have grown:∀ (old:Nat),old<n+m→Sl (w.drew.alloc (.cells ((xs ++ news).toArray ++ Builtin.zeroCells z.cells (grownCap w (n+m) old e - (n+m))) e)) (More S w) e i.size
    (.slice (some ⟨w.heap.size,0,none⟩) (n+m) (grownCap w (n+m) old e)) (xs ++ news) (n+m) ∧
   Turned S w (w.drew.alloc (.cells ((xs ++ news).toArray ++ Builtin.zeroCells z.cells (grownCap w (n+m) old e - (n+m))) e)):=by
  intro old ho
  have hge:=grownCap_ge w (n+m) old e
  have hcm:grownCap w (n+m) old e≤maxLen:=grownCap_le_maxLen w (n+m) old e h63
  refine ⟨⟨hlen,.inr ⟨w.heap.size,0,_,_,rfl,.inr (Nat.le_refl _),Go.Mine.heap_alloc_new w.drew _,hge,hcm,?_,?_⟩⟩,(Turned.drew S w).new _⟩
  ·simp only [Array.size_append, List.size_toArray, size_zeroCells, hzs, hlen, Nat.zero_add, ← Nat.add_mul]
   exact Nat.le_of_eq (by congr 1;omega)
  ·rw [List.drop_zero, Array.toList_append, ← hlen]
   exact List.take_left
 rcases h.2 with ⟨rfl,rfl⟩|⟨g,off,cap,cur,rfl,hS,hg,hnc,hcm,hcs,htake⟩
 ·have hx : xs = [] := List.eq_nil_of_length_eq_zero (by simpa using h.1)
  subst hx
  by_cases hm:m=0
  ·subst hm
   have hn:news=[]:=List.eq_nil_of_length_eq_zero (by simpa using hsrc.newsLen)
   subst hn
   exact ⟨_,_,run_append_nothing w t tx ty e i ht hi none 0 0 (Nat.le_refl _) x hsrc,Sl.nil _ _ _ _,Turned.refl _ _⟩
  ·have hr := run_append_grow_src (P := P) w t tx ty e i z ht hi hz none 0 0 [] (run_firstCells_none w.drew i.size 0 0 0) x m news hsrc (by omega) (by simp only [maxLen] at h63; omega) (growslice_fits (by omega) (by simpa using hbytes))
   have hgr:=grown 0 (by omega)
   exact ⟨_,_,hr,hgr.1,hgr.2⟩
 ·by_cases hroom : n + m ≤ cap
  ·have hmul : (n + m) * i.size ≤ cap * i.size := Nat.mul_le_mul_right _ hroom
   have hfit:off+n * i.size+news.length≤cur.size:=by rw [hsrc.newsLen,Nat.add_assoc,←Nat.add_mul];omega
   have hr:=run_append_room_src (P:=P) w t tx ty e i ht hi g off n cap x m news hsrc hroom (fun j hj=>by simp [World.cell?,hg];omega) (fun j hj=>free_of hg _)
   refine ⟨_,_,hr,⟨hlen,.inr ⟨g,off,cap,_,rfl,.inl hS,heap_setCells_same g e news _ w cur hg hfit,hroom,hcm,?_,?_⟩⟩,Turned.setCells g hS _ _ _⟩
   ·simp only [List.size_toArray]
    rw [splice_length (by simpa using hfit)];simpa using hcs
   ·have h1 : n * i.size ≤ cur.size - off := by omega
    have htl:(cur.toList.take (off+n * i.size)).drop off=xs:=by rw [←htake,List.drop_take];congr 1;omega
    simp only [splice]
    rw [List.append_assoc,List.drop_append_of_le_length (by simp;omega),htl,←List.append_assoc,←hlen]
    exact List.take_left
  ·have hold : (Builtin.firstCells i.size n (.slice (some ⟨g, off, none⟩) n cap)).run P w.drew = .ok xs.toArray w.drew := by
    refine run_firstCells_some w.drew i.size n ⟨g,off,none⟩ n cap xs h.1 fun j u hu=>?_
    have hj:j<n * i.size:=by rw [←h.1];exact (List.getElem?_eq_some_iff.1 hu).1
    rw [←htake,List.getElem?_take,if_pos hj,List.getElem?_drop]at hu
    rw [Addr.add_lit]
    simpa [World.cell?,heap_drew,hg] using hu
   have hr:=run_append_grow_src (P:=P) w t tx ty e i z ht hi hz _ n cap xs hold x m news hsrc (by omega) (by simp only [maxLen]at h63;omega) (growslice_fits (by omega) hbytes)
   have hgr:=grown cap (by omega)
   exact ⟨_,_,hr,hgr.1,hgr.2⟩
theorem wpList_append {ops:Array Oper} {rest:List Oper} {o:Oper} {a:Act} {Q:Exit→Act→World→Prop} (hgd:o.guard=none) (so xo:Operand) (t tx:TypeId)
  (ho:o.op = .call { callee:=.builtin .append,args:=#[so,xo],argTypes:=#[t,tx] })
  (h:Sl w S e size v xs n) (ht:P.underlying t=some (.slice e)) (hinf:(P.info? e).map (fun i=>(i.zero,i.size,i.bytes))=some (some z,size,bytes)) (hzs:z.cells.size=size) (hs0:0<size)
  (hs:a.eval so=v) (x:Value) (hx:a.eval xo=x) (hsrc:Src P size tx x m news w) (h63:n+m≤maxLen) (hbytes:(n+m) * bytes≤140737488355328)
  (hK:∀ v' w',Sl w' (More S w) e size v' (xs ++ news) (n+m)→Turned S w w'→wpList P ops Q rest (a.put o.dst v') w'):wpList P ops Q (o :: rest) a w:=by
 obtain ⟨i,hi,hz0,hz1,hz2⟩:=info_parts hinf
 refine wpList_plain hgd fun K' hK'=>?_
 obtain ⟨v',w',hrun,r1,r2⟩:=h.append ht hi hz0 hz1 hz2 hzs hs0 hsrc h63 hbytes o.type
 unfold Oper.wp
 simp [execOp,ho,resolve,invoke,builtin,hs,hx,hrun,Result.andThen]
 exact hK' _ _ (hK v' w' r1 r2)
theorem Sl.cut (h:Sl w S e size v xs n) (lo hi:Nat) (hlh:lo≤hi) (hhn:hi≤n) :
  ∃ a cap,v = .slice a n cap∧n≤cap∧cap≤maxLen∧Sl w S e size (.slice (if cap=lo then a else a.map (·.add (lo * size))) (hi - lo) (cap - lo)) ((xs.drop (lo * size)).take ((hi - lo) * size)) (hi - lo):=by
 have hlen:((xs.drop (lo * size)).take ((hi - lo) * size)).length=(hi - lo) * size:=by
  have h1:lo * size+(hi - lo) * size≤n * size:=by rw [←Nat.add_mul];exact Nat.mul_le_mul_right _ (by omega)
  simp only [List.length_take,List.length_drop,h.1];omega
 rcases h.2 with ⟨rfl,rfl⟩|⟨g,off,cap,cur,rfl,hS,hg,hnc,hcm,hcs,htake⟩
 ·obtain rfl : hi = 0 := by omega
  obtain rfl:lo=0:=by omega
  exact ⟨none,0,rfl,Nat.le_refl _,by simp [maxLen],by rw [if_pos rfl];exact ⟨hlen,.inl ⟨rfl,rfl⟩⟩⟩
 ·refine ⟨_, cap, rfl, hnc, hcm, hlen, .inr ?_⟩
  by_cases hc:cap=lo
  ·obtain rfl : hi = n := by omega
   obtain rfl:lo=hi:=by omega
   refine ⟨g,off,cap - lo,cur,by rw [if_pos hc],hS,hg,by omega,by omega,?_,?_⟩
   ·have : (cap - lo) * size ≤ cap * size := Nat.mul_le_mul_right _ (by omega)
    omega
   ·simp
  ·refine ⟨g, off + lo * size, cap - lo, cur, by rw [if_neg hc, Option.map_some, Addr.add_lit], hS, hg, by omega, by omega, ?_, ?_⟩
   ·have : lo * size + (cap - lo) * size = cap * size := by rw [← Nat.add_mul]; congr 1; omega
    omega
   ·have h1 : lo * size + (hi - lo) * size ≤ n * size := by rw [← Nat.add_mul]; exact Nat.mul_le_mul_right _ (by omega)
    rw [←htake,←List.drop_drop,List.drop_take,List.take_take]
    congr 1;omega
theorem Sl.run_from (h:Sl w S e size v xs n) (ht:P.underlying t=some (.slice e)) (hinf:(P.info? e).map (fun i=>(i.zero,i.size,i.bytes))=some (some z,size,bytes)) (k:Nat) (kl:IntKind) (L:Int) (hL:L=(k:Int)) (hk:k≤n) :
  ∃ v',(∀ w',(Instr.slice t v (some (.int kl L)) none none).run P w' = .ok v' w')∧Sl w S e size v' (xs.drop (k * size)) (n - k):=by
 obtain ⟨i,hi,hz0,hz1,hz2⟩:=info_parts hinf
 subst hL
 obtain ⟨ad,cap,rfl,h1,h2,h3⟩:=h.cut k n hk (Nat.le_refl _)
 have h4:(xs.drop (k * size)).take ((n - k) * size)=xs.drop (k * size):=by
  apply List.take_of_length_le
  rw [List.length_drop,h.1,Nat.sub_mul];exact Nat.le_refl _
 rw [h4]at h3
 refine ⟨_,fun w'=>?_,h3⟩
 simp [Instr.slice,Instr.sliceBounds,Instr.sliceBound,asIntOf,run_underlying ht,sizeOf,typeInfo,hi,hz1,hk,Result.andThen]
theorem Sl.src (h:Sl w S e size v xs n) {e' : TypeId} (hk:P.underlying tx=some (.slice e')) (h1:∀ u∈xs,u.oneCell'=true):Src P size tx v n xs w:=by
 rcases h.2 with ⟨rfl,rfl⟩|⟨g,off,cap,cur,rfl,hS,hg,hnc,hcm,hcs,htake⟩
 ·obtain rfl : xs = [] := List.eq_nil_of_length_eq_zero (by simpa using h.1)
  exact Src.ofNil _ hk 0
 ·refine Src.ofSlice _ hk _ n cap xs h.1 (fun j u hu => ?_) h1
  have hj:j<n * size:=by rw [←h.1];exact (List.getElem?_eq_some_iff.1 hu).1
  rw [←htake,List.getElem?_take,if_pos hj,List.getElem?_drop]at hu
  rw [Addr.add_lit]
  simpa [World.cell?,hg] using hu
theorem src_one {te:TypeId} (hk:P.underlying tx=some (.slice te)) (u:Value) (hu:u.oneCell'=true) (w:World):Src P 1 tx (.slice (some ⟨w.heap.size,0,none⟩) 1 1) 1 [u] (w.alloc (.cells #[u] te)):=
 Src.ofSlice _ hk _ 1 1 [u] rfl (cell_one_new _ _ _) (by simpa using hu)
end
end Go.Mine
namespace Go.Proofs.YtofcogekgcgjhaaGreatDoor
open Go.RowKit Go.Mine
theorem turn_any (c:Nat) (hc:c<4294967296) (w:World):Calls Tryz.prog 285 #[.int .u32 c] w fun e w'=>e = .returned (.int .u32 (Crc.turn c:Nat))∧w=w':=by
 have h1:bits .and .u32 (c:Int) 1=((c % 2:Nat):Int):=by
  have:=u32_and_nat c 1 hc (by decide)
  rw [Nat.and_one_is_mod]at this
  exact this
 have h2:bits .xor .u32 ((c:Int) / 2) 3988292384=(((c / 2) ^^^ 3988292384:Nat):Int):=by
  have:=u32_xor_nat (c / 2) 3988292384 (by omega) (by decide)
  simpa using this
 have ht:Crc.turn c=if c % 2=1 then (c / 2) ^^^ 3988292384 else c / 2:=rfl
 rcases Nat.mod_two_eq_zero_or_one c with hm|hm
 ·rw [hm] at h1
  have ht2:Crc.turn c=c / 2:=by rw [ht,hm];rfl
  rw [ht2]
  clear ht ht2 hm h2
  go_enter Tryz.func285,Tryz.ntmps285
  go_wp2
  go_ret
  exact ⟨rfl,rfl⟩
 ·rw [hm] at h1
  have ht2:Crc.turn c=(c / 2) ^^^ 3988292384:=by rw [ht,hm];rfl
  rw [ht2]
  clear ht ht2 hm
  go_enter Tryz.func285,Tryz.ntmps285
  go_wp2
  go_ret
  exact ⟨rfl,rfl⟩
theorem turn_ref (c:Nat) (hc:c<4294967296) (w:World):Calls Tryz.prog 324 #[.int .u32 c] w fun e w'=>e = .returned (.int .u32 (Crc.turn c:Nat))∧w=w':=by
 have h1:bits .and .u32 (c:Int) 1=((c % 2:Nat):Int):=by
  have:=u32_and_nat c 1 hc (by decide)
  rw [Nat.and_one_is_mod]at this
  exact this
 have h2:bits .xor .u32 ((c:Int) / 2) 3988292384=(((c / 2) ^^^ 3988292384:Nat):Int):=by
  have:=u32_xor_nat (c / 2) 3988292384 (by omega) (by decide)
  simpa using this
 have ht:Crc.turn c=if c % 2=1 then (c / 2) ^^^ 3988292384 else c / 2:=rfl
 rcases Nat.mod_two_eq_zero_or_one c with hm|hm
 ·rw [hm] at h1
  have ht2:Crc.turn c=c / 2:=by rw [ht,hm];rfl
  rw [ht2]
  clear ht ht2 hm h2
  go_enter Tryz.func324,Tryz.ntmps324
  go_wp2
  go_ret
  exact ⟨rfl,rfl⟩
 ·rw [hm] at h1
  have ht2:Crc.turn c=(c / 2) ^^^ 3988292384:=by rw [ht,hm];rfl
  rw [ht2]
  clear ht ht2 hm
  go_enter Tryz.func324,Tryz.ntmps324
  go_wp2
  go_ret
  exact ⟨rfl,rfl⟩
def tab (n:Nat):Array Value:=((List.range 256).map fun j=>Value.int .u32 (if j<n then ((Crc.turns 8 j:Nat):Int) else 0)).toArray
theorem tab_size (n:Nat):(tab n).size=256:=by simp [tab]
theorem tab_get (n j:Nat) (h:j<256):(tab n)[j]? = some (.int .u32 (if j<n then ((Crc.turns 8 j:Nat):Int) else 0)):=by
 simp [tab,h]
theorem tab_set (i:Nat) (h:i<256):(tab i).setIfInBounds i (.int .u32 (Crc.turns 8 i:Nat))=tab (i+1):=by
 apply Array.ext_getElem?
 intro j
 rw [Array.getElem?_setIfInBounds]
 by_cases hj:j<256
 ·rw [tab_get _ _ hj, tab_get _ _ hj, tab_size]
  by_cases hij:i=j
  ·subst hij;simp [h]
  ·rw [if_neg hij]
   have:(j<i)=(j<i+1):=by apply propext;omega
   simp [this]
 ·have h1 : (tab i)[j]? = none := by rw [Array.getElem?_eq_none]; rw [tab_size]; omega
  have h2:(tab (i+1))[j]? = none:=by rw [Array.getElem?_eq_none];rw [tab_size];omega
  rw [h1,h2,if_neg (by omega)]
theorem tab_one (n:Nat):(tab n).all (·.oneCell')=true:=by
 rw [Array.all_eq_true]
 intro i hi
 simp [tab,Value.oneCell']
theorem zero107:∀ w,(zeroValue 268).run Tryz.prog w = .ok (.agg (tab 0)) w:=(zero_of_info (n:=256) (by kernel_rfl)).1
theorem size107:(Tryz.prog.info? 268).map (·.size)=some 256:=by kernel_rfl
theorem wpList_store_row {P:Program} {ops:Array Oper} {rest:List Oper} {op:Oper} {a:Act} {w:World} {Q:Exit→Act→World→Prop} (hgd:op.guard=none) (ty:TypeId) (x y:Operand) (ho:op.op = .store ty x y)
    (g:Nat) (cells old:Array Value) (t:TypeId) (hx:a.eval x = .pointer (some ⟨g,0,none⟩)) (hy:a.eval y = .agg cells)
    (hg:w.heap[g]? = some (.cells old t (0,0))) (hi:(P.info? ty).map (·.size)=some cells.size) (hs:old.size=cells.size) (h1:cells.all (·.oneCell')=true)
    (h:∀ w',w'.heap[g]? = some (.cells cells t (0,0))→Turned (· = g) w w'→w'.heap.size=w.heap.size→wpList P ops Q rest (a.put op.dst undef) w'):wpList P ops Q (op :: rest) a w:=
  wpList_plain hgd fun _ hK=>by
    unfold Oper.wp execOp
    simp only [ho,hx,hy,Instr.storeAt,Instr.sureAddr,Sem.run_bind,Sem.run_pure,Result.andThen_ok,run_storeVar_row w g t ty old cells hg hi hs h1]
    exact hK _ _ (h _ (setRow_heap w g old cells t (0,0) hg) ⟨rfl,rfl,rfl,by simp [World.setRow],fun k _ hk=>setRow_other w g k cells hk⟩ (by simp [World.setRow]))
def RowsRel (w:World) (T0:Array Value) (g:Nat) (i:Value) (wr:World):Prop:=
  ∃ j:Nat,j+g=256∧i = .int .i64 j∧wr=(w.alloc (.cells T0 268)).alloc (.cells (tab j) 268)
set_option maxHeartbeats 1000000 in
theorem rows_any (w:World):Calls Tryz.prog 207 #[] w fun e w'=>e = .returned (.agg (tab 256))∧Turned (fun _=>False) w w':=by
  have z107:=zero107
  obtain ⟨T0,hT0⟩:∃ T,T=tab 0:=⟨_,rfl⟩
  rw [←hT0]at z107
  have A:Hid (T0=tab 0):=hT0
  clear hT0
  go_enter Tryz.func207,Tryz.ntmps207
  go_wp2
  clear z107
  go_loopg [4] 256 (fun g i wr=>RowsRel w T0 g i wr)
  case atStart=>exact ⟨0,rfl,rfl,by rw [A.out]⟩
  case round=>
    obtain ⟨j,hjg,rfl,rfl⟩:=hrel
    have G:Hid (j+gk=256):=hjg
    clear hjg
    by_cases hlt:j<256
    · have hd : decide ((j : Int) < 256) = true := by simp; omega
      have ht:∀ (m:Nat) w,Calls Tryz.prog 285 #[.int .u32 (Crc.turns m j:Nat)] w fun e w'=>e = .returned (.int .u32 (Crc.turns (m+1) j:Nat))∧w=w':=by
        intro m w
        rw [Crc.turns_succ]
        exact turn_any _ (Crc.turns_lt m j (by omega)) w
      have hset:=tab_set j hlt
      have hsz:=tab_size j
      have hg:(tab j)[j]? = some (.int .u32 0):=by rw [tab_get j j hlt];simp
      go_wp2
      go_loopg [3,9] 8 (fun g c k wr=>∃ m:Nat,m+g=8∧k = .int .i64 m∧c = .int .u32 (Crc.turns m j:Nat)∧wr=(w.alloc (.cells T0 268)).alloc (.cells (tab j) 268))
      case atStart=>exact ⟨0,rfl,rfl,by simp [Crc.turns],rfl⟩
      case round=>
        obtain ⟨m,hmg,rfl,rfl,rfl⟩:=hrel
        by_cases hm:m<8
        · go_wp2_with (go_at_call 285; (with_reducible refine (ht _ _).mono ?_); rintro e w' ⟨rfl, rfl⟩)
          go_roundg (7 - m)
          case measure=>omega
          case rel=>exact ⟨m+1,by omega,rfl,rfl,rfl⟩
        · obtain rfl : m = 8 := by omega
          go_wp2
          go_roundg (255 - j)
          case measure=>have:=G.out;omega
          case rel=>exact ⟨j+1,by omega,rfl,rfl⟩
    · have hd : decide ((j : Int) < 256) = false := by simp; omega
      have X : Hid (tab j = tab 256) := by have := G.out; have : j = 256 := by omega
                                           rw [this];rfl
      clear hlt G
      have hT:=tab_size j
      have hT1:=tab_one j
      have hTi:(Tryz.prog.info? 268).map (·.size)=some (tab j).size:=by rw [hT];exact size107
      have hu:Tryz.prog.underlying 268=some (.array 256 22):=by kernel_rfl
      have hg:((w.alloc (.cells T0 268)).alloc (.cells (tab j) 268)).heap[w.heap.size+1]? = some (.cells (tab j) 268 (0,0)):=by
        have:=heap_alloc_last (w.alloc (.cells T0 268)) (.cells (tab j) 268)
        simpa using this
      have hg0:((w.alloc (.cells T0 268)).alloc (.cells (tab j) 268)).heap[w.heap.size]? = some (.cells T0 268 (0,0)):=by
        rw [(MapKept.heap_alloc _ _).2 _ (by simp)]
        exact heap_alloc_last w _
      have hT0:T0.size=(tab j).size:=by rw [A.out,tab_size,tab_size]
      have hTu:Turned (fun _=>False) w ((w.alloc (.cells T0 268)).alloc (.cells (tab j) 268)):=(Turned.alloc _ _ _).trans (Turned.alloc _ _ _) fun _ _ q=>q
      generalize (w.alloc (.cells T0 268)).alloc (.cells (tab j) 268)=w1 at *
      generalize tab j=T at *
      have U:Hid (Turned (fun _=>False) w w1):=hTu
      have S:Hid (w1.heap[w.heap.size]? = some (.cells T0 268 (0,0))∧T0.size=T.size∧T.all (·.oneCell')=true∧(Tryz.prog.info? 268).map (·.size)=some T.size∧Tryz.prog.underlying 268=some (.array 256 22)):=⟨hg0,hT0,hT1,hTi,hu⟩
      have L:Hid (w1.heap[w.heap.size+1]? = some (.cells T 268 (0,0))):=hg
      clear hT hT1 hTi hu hg hg0 hT0 hTu
      go_wp2_with (first
        |(refine wpList_load_row rfl 268 _ rfl (w.heap.size+1) rfl 268 T (0,0) _ L.out S.out.2.2.2.2 rfl S.out.2.2.2.1 ?_)
        |(refine wpList_store_row rfl 268 _ _ rfl w.heap.size T T0 268 rfl rfl S.out.1 S.out.2.2.2.1 S.out.2.1 S.out.2.2.1 ?_;intro w2 hw2 ht2 _))
      refine bodyPost_ret (v:=.agg T) (results_cell_row rfl _ _ w.heap.size 268 T (0,0) _ rfl hw2 S.out.2.2.2.2 rfl S.out.2.2.2.1) rfl ⟨by rw [X.out],?_⟩
      exact (U.out.comp ht2 fun i hi q=>q.elim id fun q=>by omega)
abbrev pt (b:Nat):Value:=.pointer (some ⟨b,0,none⟩)
def Blk (w:World) (b:Nat) (c:Array Value) (T:TypeId):Prop:=w.heap[b]? = some (.cells c T (0,0))
theorem Blk.turned {S:Nat→Prop} {w w' : World} {b:Nat} {c:Array Value} {T:TypeId} (h:Blk w b c T) (ht:Turned S w w') (hb:¬ S b):Blk w' b c T:=
 (ht.block b (lt_of_block h) hb).trans h
def nums (s:ByteArray):List Nat:=s.data.toList.map (·.toNat)
theorem nums_length (s:ByteArray):(nums s).length=s.size:=by
 unfold nums
 rw [List.length_map,Array.length_toList]
 rfl
theorem nums_lt (s:ByteArray):∀ b∈nums s,b<256:=by
 intro b hb
 obtain ⟨x,_,rfl⟩:=List.mem_map.1 hb
 exact x.toNat_lt
theorem bytes_of (w:World) (s:ByteArray):∃ cap w1,(convert 9 83 (.string s)).run Tryz.prog w = .ok (.slice (some ⟨w.heap.size,0,none⟩) s.size cap) w1∧Turned (fun _=>False) w w1∧w.heap.size<w1.heap.size ∧
  s.size≤cap∧(∀ j x,(nums s)[j]? = some x→w1.cell? ⟨w.heap.size,j,none⟩=some (.int .u8 (x:Nat)))∧(∀ j,j<s.size→w1.frozen? ⟨w.heap.size,j,none⟩=false) ∧
  ∃ cur,w1.heap[w.heap.size]? = some (.cells cur 5 (cur.size,cur.size+1))∧s.size≤cur.size:=by
 have h:=run_bytes_of_string (P:=Tryz.prog) w 9 83 5 s Tryz.underlying9 Tryz.underlying83 Tryz.underlying5
 have hsz:s.size≤(bytesRow s (grownCap w s.size 0 5)).size:=by
  unfold bytesRow
  rw [Array.size_append,Array.size_map]
  exact Nat.le_add_right s.data.size _
 refine ⟨_,_,h,(Turned.drew _ _).trans (Turned.alloc _ _ _) fun _ _ q=>q,by simp,?_,?_,?_,?_⟩
 ·exact grownCap_ge w s.size 0 5
 ·intro j x hj
  have hl:j<s.data.size:=by
   have:=(List.getElem?_eq_some_iff.1 hj).1
   rw [nums_length]at this
   exact this
  have hc:=World.cell?_alloc_mark w.drew (bytesRow s (grownCap w s.size 0 5)) 5 ((bytesRow s (grownCap w s.size 0 5)).size,(bytesRow s (grownCap w s.size 0 5)).size+1) j
  rw [bytesRow_at s _ j hl]at hc
  have hx:s.data[j].toNat=x:=by
   unfold nums at hj
   rw [List.getElem?_map]at hj
   have h2:s.data.toList[j]? = some s.data[j]:=by rw [Array.getElem?_toList];exact Array.getElem?_eq_getElem hl
   rw [h2]at hj
   exact Option.some.inj hj
  rw [hx]at hc
  exact hc
 ·intro j hj
  have hc:=World.frozen?_alloc_mark w.drew (bytesRow s (grownCap w s.size 0 5)) 5 (bytesRow s (grownCap w s.size 0 5)).size ((bytesRow s (grownCap w s.size 0 5)).size+1) j
  have h1:decide ((bytesRow s (grownCap w s.size 0 5)).size≤j)=false:=by simp;omega
  rw [h1]at hc
  exact hc
 ·refine ⟨_, ?_, hsz⟩
  exact heap_alloc_last w.drew _
def TakeRel (w1:World) (c:Nat) (s:ByteArray) (g:Nat) (x i:Value) (wr:World):Prop:=
 ∃ j:Nat,j+g=s.size∧i = .int .i64 j∧x = .int .u32 (Crc.feed c ((nums s).take j):Nat)∧wr=w1
theorem feed_next (c:Nat) (l:List Nat) (j x:Nat) (h:l[j]? = some x):Crc.feed c (l.take (j+1))=Crc.turns 8 (Crc.feed c (l.take j) ^^^ x):=by
 rw [List.take_add_one,h,Crc.feed_append]
 rfl
set_option maxHeartbeats 1000000 in
theorem take_any (g c:Nat) (s:ByteArray) (w:World) (hg:Blk w g (tab 256) 268) (hc:c<4294967296) (hs:s.size≤4611686018427387904) :
  Calls Tryz.prog 208 #[pt g,.int .u32 c,.string s] w fun e w'=>e = .returned (.int .u32 (Crc.feed c (nums s):Nat))∧Turned (fun _=>False) w w':=by
 obtain ⟨cap,w1,hconv,ht,hlt,hcap,hcell,-,-⟩:=bytes_of w s
 have hg1:Blk w1 g (tab 256) 268:=hg.turned ht fun q=>q
 have htab:∀ x,x<256→w1.cell? ⟨g,x,none⟩=some (.int .u32 (Crc.turns 8 x:Nat)):=by
  intro x hx
  have:=cell_of hg1 x (.int .u32 (Crc.turns 8 x:Nat)) (by rw [tab_get _ _ hx,if_pos hx])
  exact this
 have hgb:g<w1.heap.size:=lt_of_block hg1
 have F:Hid (∀ j x,(nums s)[j]? = some x→w1.cell? ⟨w.heap.size,j,none⟩=some (.int .u8 (x:Nat))):=hcell
 have T:Hid (∀ x,x<256→w1.cell? ⟨g,x,none⟩=some (.int .u32 (Crc.turns 8 x:Nat))):=htab
 have U:Hid (Turned (fun _=>False) w w1):=ht
 have C:Hid (c<4294967296):=hc
 have W:Hid (s.size≤4611686018427387904):=hs
 clear hg hg1 hcell htab ht hc hs
 generalize w.heap.size=n at *
 go_enter Tryz.func208,Tryz.ntmps208
 go_wp2
 go_loopg [1,12] s.size (fun g x i wr=>TakeRel w1 c s g x i wr)
 case atStart=>exact ⟨0,Nat.zero_add _,rfl,rfl,rfl⟩
 case round=>
  obtain ⟨j,hjg,rfl,rfl,rfl⟩:=hrel
  by_cases hlt:j<s.size
  ·obtain ⟨b, hb⟩ : ∃ b, (nums s)[j]? = some b := ⟨_, List.getElem?_eq_getElem (by rw [nums_length]; exact hlt)⟩
   have hb2:b<256:=nums_lt s b (List.mem_of_getElem? hb)
   have hl:=F.out j b hb
   have hfn:=feed_next c _ j b hb
   have hf:=Crc.feed_lt c ((nums s).take j) C.out fun x hx=>nums_lt s x (List.mem_of_mem_take hx)
   rw [Crc.step_table _ _ hb2]at hfn
   have N:Hid (Crc.feed c ((nums s).take (j+1))=_):=hfn
   clear hfn hb
   generalize Crc.feed c ((nums s).take j)=f at *
   have hx:bits .xor .u8 ((f:Int) % 256) (b:Int)=(((f % 256) ^^^ b:Nat):Int):=by
    have:=u8_xor_nat (f % 256) b (by omega) hb2
    simpa using this
   have hx2:(f % 256) ^^^ b<256:=Nat.xor_lt_two_pow (n:=8) (by omega) hb2
   generalize (f % 256) ^^^ b=x at *
   have hl2:=T.out x hx2
   have hy:Crc.turns 8 x<4294967296:=Crc.turns_lt 8 x (by omega)
   generalize Crc.turns 8 x=y at *
   have hz:bits .xor .u32 (y:Int) ((f:Int) / 256)=((y ^^^ (f / 256):Nat):Int):=by
    have:=u32_xor_nat y (f / 256) hy (by omega)
    simpa using this
   have hw:wrap64 ((j:Int)+1)=((j+1:Nat):Int):=by have:=W.out;simp [wrap64];omega
   go_wp2
   go_roundg (gk - 1)
   case measure=>omega
   case rel=>exact ⟨j+1,by omega,by rw [hw],by rw [N.out],rfl⟩
  ·have he : (nums s).take j = nums s := List.take_of_length_le (by rw [nums_length]; omega)
   rw [he]
   go_wp2
   go_ret
   exact ⟨rfl,U.out⟩
def SumRel (w1:World) (s:ByteArray) (g:Nat) (x i:Value) (wr:World):Prop:=
 (g=1∧i = .int .i64 0∧x = .int .u32 4294967295∧wr=w1)∨(g=0∧i = .int .i64 1∧x = .int .u32 (Crc.feed 4294967295 (nums s):Nat)∧Turned (fun _=>False) w1 wr)
theorem crcsum_eq (s:ByteArray):Crc.sum (nums s)=4294967295 - Crc.feed 4294967295 (nums s):=rfl
theorem feed_nums_lt (c:Nat) (s:ByteArray) (h:c<4294967296):Crc.feed c (nums s)<4294967296:=Crc.feed_lt c _ h (nums_lt s)
theorem not_u32 (f:Nat) (h:f<4294967296):bits .xor .u32 IntKind.u32.max (f:Int)=((4294967295 - f:Nat):Int):=by
 have h1:IntKind.u32.max=((4294967295:Nat):Int):=by decide
 rw [h1,u32_xor_nat _ _ (by decide) h]
 have h2:((4294967295:Nat) ^^^ f)=4294967295 - f:=by
  have:=BitVec.toNat_not (x:=BitVec.ofNat 32 f)
  rw [←BitVec.allOnes_xor]at this
  rw [BitVec.toNat_xor,BitVec.toNat_allOnes,BitVec.toNat_ofNat,Nat.mod_eq_of_lt (by omega)]at this
  simpa using this
 rw [h2]
theorem lt_of_cell {w:World} {b o:Nat} {v:Value} (h:w.cell? ⟨b,o,none⟩=some v):b<w.heap.size:=by
 simp only [World.cell?]at h
 split at h
 ·rename_i h2;exact lt_of_block h2
 ·simp at h
set_option maxHeartbeats 1000000 in
theorem sum_one (b off cap:Nat) (s:ByteArray) (w:World) (hb:w.cell? ⟨b,off,none⟩=some (.string s)) (hbl:b<w.heap.size) (hs:s.size≤4611686018427387904) :
  Calls Tryz.prog 124 #[.slice (some ⟨b,off,none⟩) 1 cap] w fun e w'=>e = .returned (.int .u32 (Crc.sum (nums s):Nat))∧Turned (fun _=>False) w w':=by
 have z107:=zero107
 have W:Hid (s.size≤4611686018427387904):=hs
 have hr:=rows_any w
 have hu:Hid ((Tryz.prog.info? 268).map (·.size)=some (tab 256).size∧(tab 0).size=(tab 256).size∧(tab 256).all (·.oneCell')=true):=⟨by rw [tab_size];exact size107,by rw [tab_size,tab_size],tab_one 256⟩
 rw [crcsum_eq]
 have hF:Hid (Crc.feed 4294967295 (nums s)<4294967296):=feed_nums_lt _ s (by decide)
 have TK:=fun (c g:Nat) (w:World) (hg:Blk w g (tab 256) 268) (hc:c<4294967296)=>take_any g c s w hg hc W.out
 have H:Hid (∀ (c g:Nat) (w:World) (hg:Blk w g (tab 256) 268) (hc:c<4294967296),Calls Tryz.prog 208 #[pt g,.int .u32 c,.string s] w fun e w'=>e = .returned (.int .u32 (Crc.feed c (nums s):Nat))∧Turned (fun _=>False) w w'):=TK
 clear hs TK
 obtain ⟨T0,hT0⟩:∃ T,T=tab 0:=⟨_,rfl⟩
 obtain ⟨T1,hT1⟩:∃ T,T=tab 256:=⟨_,rfl⟩
 rw [←hT0]at z107 hu
 rw [←hT1]at hr hu
 have X:Hid (T1=tab 256):=hT1
 clear hT0 hT1
 go_enter Tryz.func124,Tryz.ntmps124
 go_wp2_with fail
 refine hr.mono ?_
 rintro e w1 ⟨rfl,ht1⟩
 clear hr
 rw [←World.cell?_of_block (w':=w1) (ht1.block b hbl (fun q=>q))]at hb
 have hbl1:b<w1.heap.size:=Nat.lt_of_lt_of_le hbl ht1.size
 have U:Hid (Turned (fun _=>False) w w1):=ht1
 clear ht1 hbl
 have S:=heap_alloc_last w1 (.cells T0 268)
 have S' : Hid ((w1.alloc (.cells T0 268)).heap[w1.heap.size]? = some (.cells T0 268 (0,0))):=S
 clear S
 go_wp2_with (first
    |(refine wpList_store_row rfl 268 _ _ rfl w1.heap.size T1 T0 268 rfl rfl S'.out hu.out.1 hu.out.2.1 hu.out.2.2 ?_;intro w2 hw2 ht2 _))
 have hg2:Blk w2 w1.heap.size (tab 256) 268:=by rw [←X.out];exact hw2
 have ht2' : Turned (fun _=>False) w w2:=U.out.comp ((Turned.alloc (fun _=>False) w1 (.cells T0 268)).comp (T:=(· = w1.heap.size)) ht2 fun i _ q=>q.elim (fun q=>q.elim) id) fun i hi q=>q.elim id fun q=>by have:=U.out.size;omega
 have hb2:w2.cell? ⟨b,off,none⟩=some (.string s):=by
  rw [World.cell?_of_block (w:=w1) ?_]
  ·exact hb
  ·rw [ht2.block b (by simp;omega) (by omega),(MapKept.heap_alloc w1 _).2 b hbl1]
 have hbl2:b<w2.heap.size:=lt_of_cell hb2
 have G:Hid (Blk w2 w1.heap.size (tab 256) 268):=hg2
 have V:Hid (Turned (fun _=>False) w w2):=ht2'
 clear hg2 ht2' hw2 ht2 hb hbl1 z107 S' hu U
 generalize w1.heap.size=g at *
 go_loopg [4,10] 1 (fun g x i wr=>SumRel w2 s g x i wr)
 case atStart=>exact .inl ⟨rfl,rfl,rfl,rfl⟩
 case round=>
  rcases hrel with ⟨rfl,rfl,rfl,rfl⟩|⟨rfl,rfl,rfl,ht⟩
  ·have hk := H.out 4294967295 g wr G.out (by decide)
   rw [show ((4294967295:Nat):Int)=4294967295 from rfl]at hk
   have Y:Hid (SumRel wr s 0 (.int .u32 (Crc.feed 4294967295 (nums s):Nat)) (.int .i64 1)=SumRel wr s 0 (.int .u32 (Crc.feed 4294967295 (nums s):Nat)) (.int .i64 1)):=rfl
   clear hF
   go_wp2_with (go_at_call 208;(with_reducible refine hk.mono ?_);rintro e w' ⟨rfl,ht⟩)
   go_roundg 0
   case measure=>omega
   case rel=>exact .inr ⟨rfl,rfl,rfl,ht⟩
  ·have hf := not_u32 _ hF.out
   have E:Hid (∀ x,x=Crc.feed 4294967295 (nums s)→((4294967295 - x:Nat):Int)=((4294967295 - Crc.feed 4294967295 (nums s):Nat):Int)):=fun x hx=>by rw [hx]
   have T:Hid (Turned (fun _=>False) w wr):=V.out.trans ht fun _ _ q=>q
   clear ht V G
   go_wp2
   go_ret
   exact ⟨rfl,T.out⟩
def MoreRel (w:World) (s:ByteArray) (g:Nat) (x i:Value) (wr:World):Prop:=
 ∃ j:Nat,j+g=s.size∧i = .int .i64 j∧x = .int .u32 (Crc.feed 4294967295 ((nums s).take j):Nat)∧wr=w
theorem byte_at (s:ByteArray) (j:Nat) (h:j<s.size):(nums s)[j]? = some s[j].toNat:=by
 unfold nums
 rw [List.getElem?_map]
 have h2:s.data.toList[j]? = some s.data[j]:=by rw [Array.getElem?_toList];exact Array.getElem?_eq_getElem h
 rw [h2]
 rfl
set_option maxHeartbeats 1000000 in
theorem more_any (s:ByteArray) (w:World) (hs:s.size≤4611686018427387904) :
  Calls Tryz.prog 271 #[.int .u32 0,.string s] w fun e w'=>e = .returned (.int .u32 (Crc.sum (nums s):Nat))∧w=w':=by
 rw [crcsum_eq]
 have hF:Hid (Crc.feed 4294967295 (nums s)<4294967296):=feed_nums_lt _ s (by decide)
 have W:Hid (s.size≤4611686018427387904):=hs
 have hn:=not_u32 0 (by decide)
 simp at hn
 clear hs
 go_enter Tryz.func271,Tryz.ntmps271
 go_wp2
 go_loopg [5,6] s.size (fun g x i wr=>MoreRel w s g x i wr)
 case atStart=>exact ⟨0,Nat.zero_add _,rfl,rfl,rfl⟩
 case round=>
  obtain ⟨j,hjg,rfl,rfl,rfl⟩:=hrel
  by_cases hlt:j<s.size
  ·have hb := byte_at s j hlt
   have hb2:s[j].toNat<256:=s[j].toNat_lt
   have hi:s[j]? = some s[j]:=ByteArray.getElem?_lt' s j hlt
   have hfn:=feed_next 4294967295 _ j _ hb
   have hf:=Crc.feed_lt 4294967295 ((nums s).take j) (by decide) fun x hx=>nums_lt s x (List.mem_of_mem_take hx)
   have N:Hid (Crc.feed 4294967295 ((nums s).take (j+1))=_):=hfn
   clear hfn hb
   generalize Crc.feed 4294967295 ((nums s).take j)=f at *
   have hx:bits .xor .u32 (f:Int) ((s[j].toNat:Int) % 4294967296)=((f ^^^ s[j].toNat:Nat):Int):=by
    rw [Int.emod_eq_of_lt (by omega) (by omega)]
    exact u32_xor_nat f s[j].toNat hf (by omega)
   have hx2:f ^^^ s[j].toNat<4294967296:=Nat.xor_lt_two_pow (n:=32) hf (by omega)
   generalize f ^^^ s[j].toNat=x at *
   have hw:wrap64 ((j:Int)+1)=((j+1:Nat):Int):=by have:=W.out;simp [wrap64];omega
   have X2:Hid (x<4294967296):=hx2
   clear hf hb2 hx2
   go_wp2
   have ht:∀ (m:Nat) w,Calls Tryz.prog 324 #[.int .u32 (Crc.turns m x:Nat)] w fun e w'=>e = .returned (.int .u32 (Crc.turns (m+1) x:Nat))∧w=w':=by
    intro m w
    rw [Crc.turns_succ]
    exact turn_ref _ (Crc.turns_lt m x X2.out) w
   go_loopg [5,7] 8 (fun g c k wq=>∃ m:Nat,m+g=8∧k = .int .i64 m∧c = .int .u32 (Crc.turns m x:Nat)∧wq=wr)
   case atStart=>exact ⟨0,rfl,rfl,by simp [Crc.turns],rfl⟩
   case round=>
    obtain ⟨m,hmg,rfl,rfl,rfl⟩:=hrel
    by_cases hm:m<8
    ·go_wp2_with (go_at_call 324; (with_reducible refine (ht _ _).mono ?_); rintro e w' ⟨rfl, rfl⟩)
     go_roundg (7 - m)
     case measure=>omega
     case rel=>exact ⟨m+1,by omega,rfl,rfl,rfl⟩
    ·obtain rfl : m = 8 := by omega
     go_wp2
     go_roundg (s.size - j - 1)
     case measure=>omega
     case rel=>exact ⟨j+1,by omega,by rw [hw],by rw [N.out],rfl⟩
  ·have he : (nums s).take j = nums s := List.take_of_length_le (by rw [nums_length]; omega)
   rw [he]
   have hf:=not_u32 _ hF.out
   go_wp2
   go_ret
   exact ⟨rfl,rfl⟩
def RSumRel (w:World) (s:ByteArray) (g:Nat) (x i:Value) (wr:World):Prop:=
 (g=1∧i = .int .i64 0∧x = .int .u32 0∧wr=w)∨(g=0∧i = .int .i64 1∧x = .int .u32 (Crc.sum (nums s):Nat)∧wr=w)
set_option maxHeartbeats 1000000 in
theorem rsum_one (b off cap:Nat) (s:ByteArray) (w:World) (hb:w.cell? ⟨b,off,none⟩=some (.string s)) (hbl:b<w.heap.size) (hs:s.size≤4611686018427387904) :
  Calls Tryz.prog 190 #[.slice (some ⟨b,off,none⟩) 1 cap] w fun e w'=>e = .returned (.int .u32 (Crc.sum (nums s):Nat))∧w=w':=by
 have hm:=more_any s w hs
 clear hs
 generalize hS:Crc.sum (nums s)=S at *
 have E:Hid (Crc.sum (nums s)=S):=hS
 clear hS
 go_enter Tryz.func190,Tryz.ntmps190
 go_wp2
 go_loopg [3,4] 1 (fun g x i wr=>RSumRel w s g x i wr)
 case atStart=>exact .inl ⟨rfl,rfl,rfl,rfl⟩
 case round=>
  rcases hrel with ⟨rfl,rfl,rfl,rfl⟩|⟨rfl,rfl,rfl,rfl⟩
  ·go_wp2_with (go_at_call 271; (with_reducible refine hm.mono ?_); rintro e w' ⟨rfl, rfl⟩)
   go_roundg 0
   case measure=>omega
   case rel=>exact .inr ⟨rfl,rfl,by rw [E.out],rfl⟩
  ·rw [E.out]
   go_wp2
   go_ret
   exact ⟨rfl,rfl⟩
def nrow (v n j:Nat):Array Value:=((List.range n).map fun i=>Value.int .u8 (if i<j then ((v / 256 ^ (n - 1 - i) % 256:Nat):Int) else 0)).toArray
theorem nrow_size (v n j:Nat):(nrow v n j).size=n:=by simp [nrow]
theorem nrow_get (v n j i:Nat) (h:i<n):(nrow v n j)[i]? = some (.int .u8 (if i<j then ((v / 256 ^ (n - 1 - i) % 256:Nat):Int) else 0)):=by simp [nrow,h]
theorem nrow_set (v n i:Nat) (h:i<n):(nrow v n i).setIfInBounds i (.int .u8 ((v / 256 ^ (n - 1 - i) % 256:Nat):Int))=nrow v n (i+1):=by
 apply Array.ext_getElem?
 intro j
 rw [Array.getElem?_setIfInBounds]
 by_cases hj:j<n
 ·rw [nrow_get _ _ _ _ hj, nrow_get _ _ _ _ hj, nrow_size]
  by_cases hij:i=j
  ·subst hij;simp [h]
  ·rw [if_neg hij]
   have:(j<i)=(j<i+1):=by apply propext;omega
   simp [this]
 ·have h1 : (nrow v n i)[j]? = none := by rw [Array.getElem?_eq_none]; rw [nrow_size]; omega
  have h2:(nrow v n (i+1))[j]? = none:=by rw [Array.getElem?_eq_none];rw [nrow_size];omega
  rw [h1,h2,if_neg (by omega)]
theorem made_nrow (v n:Nat):madeCells #[.int .u8 0] (n * 1)=nrow v n 0:=by
 apply Array.ext_getElem?
 intro i
 by_cases hi:i<n
 ·rw [nrow_get _ _ _ _ hi]
  simp [madeCells,hi,Nat.mod_one]
 ·have h1 : (nrow v n 0)[i]? = none := by rw [Array.getElem?_eq_none]; rw [nrow_size]; omega
  have h2:(madeCells #[Value.int .u8 0] (n * 1))[i]? = none:=by rw [Array.getElem?_eq_none];rw [size_madeCells];omega
  rw [h1,h2]
theorem make_nrow (v n:Nat) (hn:n≤8) (w:World):(Instr.makeSlice 83 (.int .i64 n) (.int .i64 n)).run Tryz.prog w = .ok (.slice (some ⟨w.heap.size,0,none⟩) n n) (w.alloc (.cells (nrow v n 0) 5)):=by
 have hinf:(Tryz.prog.info? 5).map (fun i=>(i.zero,i.size,i.bytes))=some (some (.int .u8 0),1,1):=by kernel_rfl
 obtain ⟨i,hi,hz0,hz1,hz2⟩:=info_parts hinf
 have:=run_make (P:=Tryz.prog) w 83 5 i _ Tryz.underlying83 hi hz0 .i64 .i64 n n (by omega) (by omega) (by rw [hz2];omega) (by omega)
 rw [hz1]at this
 simp only [Value.cells,made_nrow v n,Int.toNat_natCast]at this
 exact this
theorem nrow_back (v n:Nat) (w:World):(convert 83 9 (.slice (some ⟨w.heap.size,0,none⟩) n n)).run Tryz.prog (w.alloc (.cells (nrow v n n) 5)) = .ok (.string ⟨(num v n).toArray⟩) (w.alloc (.cells (nrow v n n) 5)):=by
 have:=run_convert_bytes_back (P:=Tryz.prog) (w.alloc (.cells (nrow v n n) 5)) 83 9 5 ⟨w.heap.size,0,none⟩ n (num v n) Tryz.underlying83 Tryz.underlying5 Tryz.underlying9 (fun j hj=>by
  have hj2:j<n:=by rw [num_length]at hj;exact hj
  have hc:=cell_of (heap_alloc_last w (.cells (nrow v n n) 5)) j _ (nrow_get v n n j hj2)
  rw [Addr.add_lit,Nat.zero_add,hc,if_pos hj2,num_getElem]
  simp)
 rw [num_length]at this
 exact this
def NumRel (w:World) (v n:Nat) (g:Nat) (i:Value) (wr:World):Prop:=
 ∃ j:Nat,j+g=n∧i = .int .i64 j∧wr=w.alloc (.cells (nrow v n j) 5)
set_option maxHeartbeats 1000000 in
theorem number_any (v n:Nat) (w:World) (hv:v<18446744073709551616) (hn:n≤8) :
  Calls Tryz.prog 245 #[.int .u64 v,.int .i64 n] w fun e w'=>e = .returned (.string ⟨(num v n).toArray⟩)∧Turned (fun _=>False) w w':=by
 have V:Hid (v<18446744073709551616):=hv
 have hmk:=make_nrow v n hn
 have hbk:=nrow_back v n w
 clear hv
 go_enter Tryz.func245,Tryz.ntmps245
 go_wp2
 clear hmk
 go_loopg [6] n (fun g i wr=>NumRel w v n g i wr)
 case atStart=>exact ⟨0,Nat.zero_add _,rfl,rfl⟩
 case round=>
  obtain ⟨j,hjg,rfl,rfl⟩:=hrel
  by_cases hlt:j<n
  ·have hset := nrow_set v n j hlt
   have hcast:((v / 256 ^ (n - 1 - j) % 256:Nat):Int)=(v:Int) / 2 ^ (8 * (n - 1 - j)) % 256:=by
    rw [show (256:Nat)=2 ^ 8 from rfl,←Nat.pow_mul]
    push_cast
    rfl
   have hset2:(nrow v n j).setIfInBounds j (.int .u8 ((v:Int) / 2 ^ (8 * (n - 1 - j)) % 256))=nrow v n (j+1):=by rw [←hcast];exact hset
   clear hcast hset
   have hsz:=nrow_size v n j
   have hg:=nrow_get v n j j hlt
   rw [if_neg (by omega)]at hg
   go_wp2
   go_roundg (n - j - 1)
   case measure=>omega
   case rel=>exact ⟨j+1,by omega,rfl,rfl⟩
  ·obtain rfl : j = n := by omega
   go_wp2
   go_ret
   exact ⟨rfl,Turned.alloc _ _ _⟩
def sealed (s:ByteArray):ByteArray:=s ++ ⟨(num (Crc.sum (nums s)) 4).toArray⟩
theorem num_size (v n:Nat):(⟨(num v n).toArray⟩:ByteArray).size=n:=by
 show (num v n).toArray.size=n
 simp [num_length]
theorem sealed_size (s:ByteArray):(sealed s).size=s.size+4:=by
 unfold sealed
 rw [ByteArray.size_append',num_size]
theorem crcsum_lt (s:ByteArray):Crc.sum (nums s)<4294967296:=by rw [crcsum_eq];omega
set_option maxHeartbeats 1000000 in
theorem sealed_any (s:ByteArray) (w:World) (hs:s.size≤4611686018427387904) :
  Calls Tryz.prog 280 #[.string s] w fun e w'=>e = .returned (.string (sealed s))∧Turned (fun _=>False) w w':=by
 have hS:=crcsum_lt s
 have hsum:=rsum_one w.heap.size 0 1 s (w.alloc (.cells #[.string s] 9)) (cell_of (heap_alloc_last w _) 0 _ rfl) (by simp) hs
 have E:Hid (sealed s=s ++ ⟨(num (Crc.sum (nums s)) 4).toArray⟩):=rfl
 have hn:∀ w,Calls Tryz.prog 245 #[.int .u64 (Crc.sum (nums s):Nat),.int .i64 4] w fun e w'=>e = .returned (.string ⟨(num (Crc.sum (nums s)) 4).toArray⟩)∧Turned (fun _=>False) w w':=fun w=>number_any (Crc.sum (nums s)) 4 w (by omega) (by omega)
 have hz:s.size+(⟨(num (Crc.sum (nums s)) 4).toArray⟩:ByteArray).size≤9223372036854775807:=by rw [num_size];omega
 have hadd:∀ w,(Op.stringOp .add s ⟨(num (Crc.sum (nums s)) 4).toArray⟩).run Tryz.prog w = .ok (.string (sealed s)) w:=fun w=>run_string_add_sum w s _ hz
 have H:Hid (Crc.sum (nums s)<4294967296):=hS
 clear hs hz
 generalize (⟨(num (Crc.sum (nums s)) 4).toArray⟩:ByteArray)=t at *
 generalize Crc.sum (nums s)=S at *
 have hm:((S:Int) % 18446744073709551616)=S:=by omega
 clear hS
 go_enter Tryz.func280,Tryz.ntmps280
 go_wp2_with (first|(go_at_call 190;(with_reducible refine hsum.mono ?_);rintro e w' ⟨rfl,rfl⟩)|(go_at_call 245;(with_reducible refine (hn _).mono ?_);rintro e w2 ⟨rfl,ht⟩))
 go_ret
 exact ⟨rfl,(Turned.alloc _ _ _).trans ht fun _ _ q=>q⟩
end Go.Proofs.YtofcogekgcgjhaaGreatDoor
