/- Packed. -/
import Derived.Test.YtofcogekgcgjhaaGreatDoorZzaf
import Derived.Test.YtofcogekgcgjhaaGreatDoorZzag
import Derived.Shelf.Strconv.Itoa3
import Derived.Lib.ItoaLen
import Derived.Lib.AtoiTie
import Derived.Lib.ItoaMem
set_option linter.unusedVariables false
set_option linter.unusedSimpArgs false
set_option maxRecDepth 100000
namespace Go.Proofs.YtofcogekgcgjhaaGreatDoor.Ch
open Go.RowKit Go.Mine
def Tab (w:World):Prop:=∃ g c T f,Tryz.prog.globalNamed "internal/strconv.uint64pow10" = some g∧w.heap[g]? = some (.cells c T f)∧c=(Lib.pow10Tab.map fun z=>Value.int .u64 z).toArray
theorem Tab.is {w:World} (h:Tab w):Lib.TabIs Tryz.prog w "internal/strconv.uint64pow10" .u64 Lib.pow10Tab:=by
 obtain ⟨g,c,T,f,h1,h2,h3⟩:=h
 unfold Lib.TabIs World.var?
 rw [h1,Option.bind_some,h2,h3]
theorem Tab.of {w:World} (h:Lib.TabIs Tryz.prog w "internal/strconv.uint64pow10" .u64 Lib.pow10Tab):Tab w:=by
 unfold Lib.TabIs World.var? at h
 obtain ⟨g,h1,h2⟩:=Option.bind_eq_some_iff.1 h
 split at h2
 ·rename_i cs T f hc
  exact ⟨g,cs,T,f,h1,hc,Option.some.inj h2⟩
 ·simp at h2
theorem Tab.turned {w w' : World} (h:Tab w) (ht:Turned (fun _=>False) w w'):Tab w':=by
 obtain ⟨g,c,T,f,h1,h2,h3⟩:=h
 exact ⟨g,c,T,f,h1,(ht.block g (lt_of_block h2) fun q=>q).trans h2,h3⟩
theorem turned_drewN (w:World) (k:Nat):Turned (fun _=>False) w (w.drewN k):=⟨rfl,rfl,rfl,Nat.le_refl _,fun _ _ _=>rfl⟩
theorem turned_grow (w:World) (os:Array Obj):Turned (fun _=>False) w (Sort.grow w os):=
 ⟨rfl,rfl,rfl,by simp [Sort.grow],fun b hb _=>by simp only [Sort.grow];rw [Array.getElem?_append_left hb]⟩
theorem itoa_any (n:Int) (h:I64 n) (w:World) (ht:Tab w):Calls Tryz.prog 214 #[.int .i64 n] w fun e w'=>e = .returned (.string ⟨(Lib.itoa n).toArray⟩)∧Turned (fun _=>False) w w':=
 (Any.strconv_Itoa Tryz.itoaLays n h.1 h.2 w ht.is).mono fun e w' ⟨he,k,os,hw⟩=>⟨he,by rw [hw];exact (turned_drewN w k).trans (turned_grow _ os) fun _ _ q=>q⟩
def nameS (n:Int):ByteArray:=if numb n=true then ⟨#[103,114,97,112,104,45]⟩ ++ ⟨(Lib.itoa n).toArray⟩ else ⟨#[]⟩
theorem name_any (n:Int) (h:I64 n) (w:World) (ht:Tab w):Calls Tryz.prog 128 #[.int .i64 n] w fun e w'=>e = .returned (.string (nameS n))∧Turned (fun _=>False) w w':=by
 have hnu:=numbered_any n w
 have hit:=itoa_any n h w ht
 have hsz:(Lib.itoa n).toArray.size≤21:=by have:=Lib.itoa_length_le n h.1 h.2;simpa using this
 unfold nameS
 generalize (Lib.itoa n).toArray=a at *
 have hle:¬ 9223372036854775807<6+a.size:=by omega
 cases hb:numb n with
 |true=>
  rw [hb]at hnu
  clear hb h ht hsz
  simp only [if_true]
  go_enter Tryz.func128,Tryz.ntmps128
  go_wp2_with (first
   |(go_at_call 212;(with_reducible refine hnu.mono ?_);rintro e w1 ⟨rfl,rfl⟩)
   |(go_at_call 214;(with_reducible refine hit.mono ?_);rintro e w2 ⟨rfl,ht2⟩))
  go_ret
  exact ⟨rfl,ht2⟩
 |false=>
  rw [hb]at hnu
  clear hb h ht hit
  simp only [Bool.false_eq_true,if_false]
  go_enter Tryz.func128,Tryz.ntmps128
  go_wp2_with (go_at_call 212;(with_reducible refine hnu.mono ?_);rintro e w1 ⟨rfl,rfl⟩)
  go_ret
  exact ⟨rfl,Turned.refl _ _⟩
def prefBA:ByteArray:=⟨#[103,114,97,112,104,45]⟩
def progN (x:ByteArray):Int×Bool:=
 if x.extract 0 6=prefBA then
  match Lib.atoiAll (x.extract 6 x.size).data.toList with
  | .ok v=>if nameS v=x then (v,true) else (0,false)
  |_=>(0,false)
 else (0,false)
end Go.Proofs.YtofcogekgcgjhaaGreatDoor.Ch
namespace Go.Mine.Ac
theorem lex_irrefl (a:ByteArray):lexLt a a=false:=by
 unfold lexLt
 simp only [decide_eq_false_iff_not]
 exact List.lt_irrefl _
theorem lex_trans {a b c:ByteArray} (h:lexLt a b=true) (k:lexLt b c=true):lexLt a c=true:=by
 unfold lexLt at *
 simp only [decide_eq_true_eq]at *
 exact List.lt_trans h k
theorem ba_ext {a b:ByteArray} (h:a.data.toList=b.data.toList):a=b:=ByteArray.ext (Array.toList_inj.1 h)
theorem lex_total {a b:ByteArray} (h:lexLt a b=false) (k:a≠b):lexLt b a=true:=by
 unfold lexLt at *
 simp only [decide_eq_true_eq,decide_eq_false_iff_not]at *
 rcases Std.le_total (a:=a.data.toList) (b:=b.data.toList) with q|q
 ·rcases Std.le_iff_lt_or_eq.1 q with q | q
  ·exact absurd q h
  ·exact absurd (ba_ext q) k
 ·rcases Std.le_iff_lt_or_eq.1 q with q | q
  ·exact q
  ·exact absurd (ba_ext q).symm k
abbrev Rising (l:List ByteArray):Prop:=l.Pairwise fun a b=>lexLt a b=true
theorem rising_unique:∀ {l m:List ByteArray},Rising l→Rising m→(∀ x,x∈l↔x∈m)→l=m
 | [],[],_,_,_=>rfl
 | [],y :: m,_,_,h=>by have:=(h y).2 (List.mem_cons_self ..);simp at this
 |x :: l,[],_,_,h=>by have:=(h x).1 (List.mem_cons_self ..);simp at this
 |x :: l,y :: m,h1,h2,h=>by
  obtain ⟨a1,a2⟩:=List.pairwise_cons.1 h1
  obtain ⟨b1,b2⟩:=List.pairwise_cons.1 h2
  have hxy:x=y:=by
   rcases List.mem_cons.1 ((h x).1 (List.mem_cons_self ..)) with q|q
   ·exact q
   ·rcases List.mem_cons.1 ((h y).2 (List.mem_cons_self ..)) with r | r
    ·exact r.symm
    ·have := lex_trans (b1 x q) (a1 y r)
     rw [lex_irrefl]at this
     simp at this
  subst hxy
  congr 1
  refine rising_unique a2 b2 fun z=>⟨fun q=>?_,fun q=>?_⟩
  ·rcases List.mem_cons.1 ((h z).1 (List.mem_cons_of_mem _ q)) with r | r
   ·subst r
    have:=a1 z q
    rw [lex_irrefl]at this
    simp at this
   ·exact r
  ·rcases List.mem_cons.1 ((h z).2 (List.mem_cons_of_mem _ q)) with r | r
   ·subst r
    have:=b1 z q
    rw [lex_irrefl]at this
    simp at this
   ·exact r
theorem insN_mem (s:ByteArray):∀ (l:List ByteArray) (x:ByteArray),x∈insN s l↔x=s∨x∈l
 | [],x=>by simp [insN]
 |y :: l,x=>by
  rw [insN]
  split
  ·simp
  ·simp only [List.mem_cons, insN_mem s l x]
   constructor <;> rintro (h|h|h) <;> simp_all
theorem insN_rising (s:ByteArray):∀ (l:List ByteArray),Rising l→s ∉ l→Rising (insN s l)
 | [],_,_=>by simp [insN,Rising]
 |y :: l,h,hs=>by
  obtain ⟨a1,a2⟩:=List.pairwise_cons.1 h
  rw [insN]
  split
  ·rename_i q
   refine List.pairwise_cons.2 ⟨fun z hz=>?_,h⟩
   rcases List.mem_cons.1 hz with rfl|hz
   ·exact q
   ·exact lex_trans q (a1 z hz)
  ·rename_i q
   have hy:lexLt y s=true:=lex_total (by simpa using q) fun z=>hs (z ▸ List.mem_cons_self ..)
   refine List.pairwise_cons.2 ⟨fun z hz=>?_,insN_rising s l a2 fun z=>hs (List.mem_cons_of_mem _ z)⟩
   rcases (insN_mem s l z).1 hz with rfl|hz
   ·exact hy
   ·exact a1 z hz
theorem sortN_mem:∀ (l:List ByteArray) (x:ByteArray),x∈sortN l↔x∈l
 | [],x=>by simp [sortN]
 |y :: l,x=>by
  have:=sortN_mem l x
  unfold sortN at *
  rw [List.foldr_cons,insN_mem,this,List.mem_cons]
theorem sortN_rising:∀ (l:List ByteArray),l.Nodup→Rising (sortN l)
 | [],_=>by simp [sortN,Rising]
 |y :: l,h=>by
  obtain ⟨h1,h2⟩:=List.nodup_cons.1 h
  have:=sortN_rising l h2
  unfold sortN at *
  rw [List.foldr_cons]
  exact insN_rising y _ this fun z=>h1 ((sortN_mem l y).1 z)
theorem sortN_is {l m:List ByteArray} (hl:l.Nodup) (hm:Rising m) (h:∀ x,x∈m↔x∈l):m=sortN l:=
 rising_unique hm (sortN_rising l hl) fun x=>(h x).trans (sortN_mem l x).symm
end Go.Mine.Ac
