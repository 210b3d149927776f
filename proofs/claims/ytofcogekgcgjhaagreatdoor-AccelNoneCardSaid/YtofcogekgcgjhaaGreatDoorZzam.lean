/- Packed. -/
import Derived.Test.YtofcogekgcgjhaaGreatDoorZzai
import Derived.Shelf.SlSortCmp.WholeK
import Derived.Deep.RegionWith
set_option linter.unusedVariables false
set_option linter.unusedSimpArgs false
set_option maxRecDepth 100000
namespace Go.Proofs.YtofcogekgcgjhaaGreatDoor
open Go.RowKit Go.Mine Go.Shelf Go.Sort
def encCh (c:Ch):List Value:=[.int .u32 (c.1:Nat),.string c.2]
set_option maxHeartbeats 1000000 in
theorem closure41 (x y:Ch) (W:World):Calls Tryz.prog 301 #[.agg (encCh x).toArray,.agg (encCh y).toArray] W fun e w'=>e = .returned (.int .i64 (cmpV x.1 y.1))∧∃ q os',w'=grow (W.drewN q) os':=by
 have hcon:=fun W'=>compare_any x.1 y.1 W'
 generalize cmpV x.1 y.1=r at hcon ⊢
 unfold encCh
 go_enter Tryz.func301,Tryz.ntmps301
 go_wp2_with (go_at_call 302;(with_reducible refine (hcon _).mono ?_);rintro e w' ⟨rfl,rfl⟩)
 go_ret
 exact ⟨rfl,0,_,by rw [alloc_eq_grow,alloc_eq_grow,grow_grow];rfl⟩
theorem ltV (x y:Ch):ltOf (fun x y:Ch=>cmpV x.1 y.1) x y=decide (x.1<y.1):=by
 unfold ltOf cmpV
 by_cases h1:x.1<y.1
 ·simp [h1]
 ·by_cases h2:y.1<x.1 <;> simp [h1,h2]
theorem swoV:SWO (ltOf fun x y:Ch=>cmpV x.1 y.1) where
 irrefl x:=by rw [ltV];simp
 trans x y z h1 h2:=by rw [ltV]at *;simp at *;omega
 ntrans x y z h1 h2:=by rw [ltV]at *;simp at *;omega
theorem flat_ccells (l:List Ch):flatK encCh 2 l.toArray=(ccells l).toArray:=by
 refine ext_get! (by simp [ccells_length]) fun t ht=>?_
 have ht2:t<l.length * 2:=by simpa using ht
 rw [get_flatK _ _ _ _ (by simpa using ht2)]
 have hi:t / 2<l.length:=by omega
 obtain ⟨g1,g2⟩:=ccells_get l (t / 2) l[t / 2] (List.getElem?_eq_getElem hi)
 have e0:(l.toArray)[t / 2]! = l[t / 2]:=by simp [hi]
 rw [e0]
 rcases Nat.mod_two_eq_zero_or_one t with hm|hm
 ·have e : t = t / 2 * 2 := by omega
  rw [←e]at g1
  simp [hm,encCh,g1]
 ·have e : t = t / 2 * 2 + 1 := by omega
  rw [←e]at g2
  simp [hm,encCh,g2]
theorem sorted_row (l:List Ch) (d:Array Ch) (hn:(l.map (·.1)).Nodup) (hp:PermIn 0 l.toArray.size l.toArray d) (hs:SortedIn (ltOf fun x y:Ch=>cmpV x.1 y.1) 0 l.toArray.size d):d=(sortCh l).toArray:=by
 have hsz:d.size=l.length:=by simpa using hp.1
 have hperm:d.toList.Perm l:=by
  have h:=hp.2.2
  have e1:d.extract 0 l.toArray.size=d:=by
   rw [←hp.1];exact Array.extract_size
  rw [e1,Array.extract_size]at h
  simpa using h
 have hnd:(d.toList.map (·.1)).Nodup:=(List.Perm.map _ hperm).nodup_iff.2 hn
 have hris:Rising d.toList:=by
  rw [Rising,List.pairwise_iff_getElem]
  intro i j hi hj hij
  have hi2:i<d.size:=by simpa using hi
  have hj2:j<d.size:=by simpa using hj
  have h:=hs i j (Nat.zero_le _) hij (by simp;omega)
  rw [ltV,getElem!_pos d j hj2,getElem!_pos d i hi2]at h
  have h1:¬ d[j].1<d[i].1:=by simpa using h
  have h2:d[i].1≠d[j].1:=by
   intro q
   have:=(List.pairwise_iff_getElem.1 hnd) i j (by simpa using hi2) (by simpa using hj2) hij
   simp at this
   exact this q
  simp only [Array.getElem_toList]
  omega
 have:=rising_unique d.toList (sortCh l) hris (sortCh_rising l hn) (hperm.trans (sortCh_perm l).symm)
 rw [←this]
theorem cmpLays (g off n:Nat) (w:World):CmpLays Tryz.prog 301 #[] encCh 2 (fun x y:Ch=>cmpV x.1 y.1) g off n w:=
 fun _ _ _ _ x y=>closure41 x y _
theorem putCells_list (F cur:Array Value) (off:Nat) (h:off+F.size≤cur.size):((putCells id off F cur).toList.drop off).take F.size=F.toList:=by
 apply List.ext_getElem?
 intro k
 rw [List.getElem?_take]
 split
 ·rename_i hk
  rw [List.getElem?_drop]
  have h1:off+k<cur.size:=by omega
  have h2:cur[off+k]? = some cur[off+k]:=Array.getElem?_eq_getElem h1
  simp only [putCells,Array.getElem?_toList,Array.getElem?_mapIdx,h2,Option.map_some]
  rw [if_pos ⟨by omega,by omega⟩,show off+k - off=k by omega]
  simp [hk]
 ·rename_i hk
  rw [List.getElem?_eq_none (by simp;omega)]
set_option maxHeartbeats 1000000 in
theorem sortf_some {w:World} {S:Nat→Prop} {g off cap:Nat} {cur:Array Value} (l:List Ch) (hg:w.heap[g]? = some (.cells cur 285 (0,0))) (hS:S g) (hnc:l.length≤cap) (hcm:cap≤maxLen) (hcs:off+cap * 2≤cur.size) (ht:(cur.toList.drop off).take (l.length * 2)=ccells l)
  (hn:(l.map (·.1)).Nodup) (hl:l.length≤100000):Calls Tryz.prog 300 #[.slice (some ⟨g,off,none⟩) l.length cap,.func (.func 301) #[] #[]] w fun e w'=>e = .returned (.tuple #[])∧Sl w' S 285 2 (.slice (some ⟨g,off,none⟩) l.length cap) (ccells (sortCh l)) l.length∧Turned S w w':=by
 have eg:∀ args w,(callFunc 301 args).run Tryz.prog w = .ok (.enter 301 args) w:=enters_of Tryz.func301 (by kernel_rfl) rfl
 have hH:HoldsK encCh 2 w g off l.toArray:=by
  intro j hj
  rw [flat_ccells]at hj ⊢
  have hj2:j<l.length * 2:=by simpa [ccells_length] using hj
  refine ⟨?_,free_of hg _⟩
  have:(ccells l)[j]? = cur[off+j]? := by
   rw [←ht,List.getElem?_take,if_pos hj2,List.getElem?_drop];simp
  have h3:(ccells l)[j]? = some (ccells l)[j]! := by
   have h4:j<(ccells l).length:=by rw [ccells_length];exact hj2
   simp [h4]
  refine cell_of hg _ _ ?_
  rw [←this,h3];simp
 have hcon:=AnyQ.slices_SortFunc Tryz.sortCh 2 Tryz.isAgg285 Tryz.sizeOf285 encCh (fun _=>rfl) (fun x v hv=>by simp [encCh]at hv;rcases hv with rfl|rfl <;> rfl) (fun x y:Ch=>cmpV x.1 y.1) swoV 301 #[] g off cap l.toArray w eg (cmpLays g off l.toArray.size w) hH (lt_of_block hg) (by simp;omega)
 change Calls Tryz.prog 300 _ _ _ at hcon
 have es:l.toArray.size=l.length:=by simp
 rw [es]at hcon
 refine hcon.mono ?_
 rintro e w' ⟨rfl,d',n,os,hp,hs,rfl⟩
 rw [←es]at hp hs
 have hd:=sorted_row l d' hn hp hs
 subst hd
 have hlt:=lt_of_block hg
 have hb:(mapBlock (Sort.ahead w n) g (putCells id off (flatK encCh 2 (sortCh l).toArray))).heap[g]? = some (.cells (putCells id off (flatK encCh 2 (sortCh l).toArray) cur) 285 (0,0)):=by
  simp only [mapBlock,heap_ahead,Array.getElem?_modify,if_true,hg,Option.map_some,onCells]
 have hsl:(sortCh l).length=l.length:=(sortCh_perm l).length_eq
 refine ⟨rfl,⟨by rw [ccells_length,hsl],.inr ⟨g,off,cap,putCells id off (flatK encCh 2 (sortCh l).toArray) cur,rfl,hS,?_,hnc,hcm,?_,?_⟩⟩,?_⟩
 ·rw [sortWorldK, heap_grow_old _ _ (by simpa [putRowK] using hlt)]
  exact hb
 ·simpa [putCells] using hcs
 ·rw [flat_ccells]
  have:=putCells_list (ccells (sortCh l)).toArray cur off (by simp only [List.size_toArray,ccells_length,hsl];omega)
  simpa [ccells_length,hsl] using this
 ·refine ⟨rfl, rfl, rfl, by simp [sortWorldK, putRowK], fun k hk hnS => ?_⟩
  rw [sortWorldK,heap_grow_old _ _ (by simpa [putRowK] using hk)]
  have hne:g≠k:=fun q=>hnS (q ▸ hS)
  simp [putRowK,putRow,mapBlock,Array.getElem?_modify,hne]
def NilRel (w:World) (_g:Nat) (i:Value) (wr:World):Prop:=i = .int .i64 1∧w=wr
def NilRel2 (w:World) (_g:Nat) (a b:Value) (wr:World):Prop:=a = .int .i64 0∧b = .int .i64 0∧w=wr
set_option maxHeartbeats 1000000 in
theorem ins_nil (f:Value) (w:World):Calls Tryz.prog 345 #[.slice none 0 0,.int .i64 0,.int .i64 0,f] w fun e w'=>e = .returned (.tuple #[])∧w=w':=by
 go_enter Tryz.func345,Tryz.ntmps345
 go_wp2
 go_loopg [8] 0 (fun g i wr=>NilRel w g i wr)
 case atStart=>exact ⟨rfl,rfl⟩
 case round=>
  obtain ⟨rfl,rfl⟩:=hrel
  go_wp2
  go_end0
  exact ⟨rfl,rfl⟩
set_option maxHeartbeats 1000000 in
theorem pdq_nil (k:Nat) (f:Value) (w:World):Calls Tryz.prog 332 #[.slice none 0 0,.int .i64 0,.int .i64 0,.int .i64 k,f] w fun e w'=>e = .returned (.tuple #[])∧w=w':=by
 have hi:=ins_nil f w
 go_enter Tryz.func332,Tryz.ntmps332
 go_wp2
 go_loopg [1,2] 0 (fun g a b wr=>NilRel2 w g a b wr)
 case atStart=>exact ⟨rfl,rfl,rfl⟩
 case round=>
  obtain ⟨rfl,rfl,rfl⟩:=hrel
  go_wp2_with (go_at_call 345;(with_reducible refine hi.mono ?_);rintro e w' ⟨rfl,rfl⟩)
  refine bodyPost_ret (results_none rfl _ _ _) rfl ?_
  exact ⟨rfl,rfl⟩
set_option maxHeartbeats 1000000 in
theorem sortf_nil (f:Value) (w:World):Calls Tryz.prog 300 #[.slice none 0 0,f] w fun e w'=>e = .returned (.tuple #[])∧w=w':=by
 have hl:Calls Tryz.prog 181 #[.int .u64 0] w _:=Any.bits_Len (SlLaysF0.n15.bits (P:=Tryz.prog) (ρ:=Tryz.sortCh_ren) { Tryz.sortCh with }) 0 w (by omega) (by omega)
 have hp:=fun k=>pdq_nil k f w
 generalize Lib.bitLen (0:Int).toNat=k at *
 go_enter Tryz.func300,Tryz.ntmps300
 go_wp2_with (first|(go_at_call 181;(with_reducible refine hl.mono ?_);rintro e w' ⟨rfl,rfl⟩)|(go_at_call 332;(with_reducible refine (hp k).mono ?_);rintro e w' ⟨rfl,rfl⟩))
 go_end0
 exact ⟨rfl,rfl⟩
theorem sortf_any {w:World} {S:Nat→Prop} {v:Value} (l:List Ch) (h:Sl w S 285 2 v (ccells l) l.length) (hn:(l.map (·.1)).Nodup) (hl:l.length≤100000) :
  Calls Tryz.prog 300 #[v,.func (.func 301) #[] #[]] w fun e w'=>e = .returned (.tuple #[])∧Sl w' S 285 2 v (ccells (sortCh l)) l.length∧Turned S w w':=by
 rcases h.2 with ⟨rfl,h0⟩|⟨g,off,cap,cur,rfl,hS,hg,hnc,hcm,hcs,ht⟩
 ·have : l = [] := List.eq_nil_of_length_eq_zero h0
  subst this
  refine (sortf_nil _ w).mono ?_
  rintro e w' ⟨rfl,rfl⟩
  exact ⟨rfl,Sl.nil _ _ _ _,Turned.refl _ _⟩
 ·exact sortf_some l hg hS hnc hcm hcs ht hn hl
end Go.Proofs.YtofcogekgcgjhaaGreatDoor
namespace Go.Proofs.YtofcogekgcgjhaaGreatDoor
open Go.RowKit Go.Mine
theorem more_up {w:World} {B:Nat} (hB:B≤w.heap.size) (b:Nat) (q:More (fun b=>B≤b) w b):B≤b:=q.elim id fun q=>Nat.le_trans hB q
theorem raw_up {B p:Nat} {bs:List UInt8} (s:ByteArray) (w:World) (h:Wr w (fun b=>B≤b) p bs) (hB:B≤w.heap.size) (hL:bs.length+s.size≤1099511627776) :
  Calls Tryz.prog 149 #[pt p,.string s] w fun e w'=>e = .returned (.tuple #[])∧Wr w' (fun b=>B≤b) p (bs ++ s.data.toList)∧Turned (fun b=>B≤b) w w':=
 (raw_any s w h hL).mono fun _ _ q=>⟨q.1,q.2.1.widen (more_up hB),q.2.2⟩
theorem u8_up {B p:Nat} {bs:List UInt8} (v:Nat) (w:World) (h:Wr w (fun b=>B≤b) p bs) (hB:B≤w.heap.size) (hv:v<256) (hL:bs.length+1≤1099511627776) :
  Calls Tryz.prog 148 #[pt p,.int .u8 v] w fun e w'=>e = .returned (.tuple #[])∧Wr w' (fun b=>B≤b) p (bs ++ num v 1)∧Turned (fun b=>B≤b) w w':=
 (u8_any v w h hv hL).mono fun _ _ q=>⟨q.1,q.2.1.widen (more_up hB),q.2.2⟩
theorem u32_up {B p:Nat} {bs:List UInt8} (v:Nat) (w:World) (h:Wr w (fun b=>B≤b) p bs) (hB:B≤w.heap.size) (hv:v<4294967296) (hL:bs.length+4≤1099511627776) :
  Calls Tryz.prog 150 #[pt p,.int .u32 v] w fun e w'=>e = .returned (.tuple #[])∧Wr w' (fun b=>B≤b) p (bs ++ num v 4)∧Turned (fun b=>B≤b) w w':=
 (u32_any v w h hv hL).mono fun _ _ q=>⟨q.1,q.2.1.widen (more_up hB),q.2.2⟩
theorem chs_to {w:World} {a:Option Addr} {cap:Nat} {l:List Ch} (h:ChIs w a cap l) (j:Nat) (hj:j≤l.length) (W:World) :
  (Instr.slice 273 (.slice a l.length cap) none (some (.int .i64 j)) none).run Tryz.prog W = .ok (.slice a j cap) W:=by
 obtain ⟨i,hi,hz0,hz1,hz2⟩:=info_parts info31
 have hjc:j≤cap:=by have:=h.1;omega
 simp [Instr.slice,Instr.sliceBounds,Instr.sliceBound,asIntOf,run_underlying Tryz.underlying273,sizeOf,typeInfo,hi,hjc,Result.andThen]
 intro _
 cases a with
 |none=>rfl
 |some ad=>simp [Addr.add]
theorem ChIs.take {w:World} {a:Option Addr} {cap:Nat} {l:List Ch} (h:ChIs w a cap l) (j:Nat) (hj:j≤l.length):ChIs w a cap (l.take j):=by
 refine ⟨by have:=h.1;simp;omega,h.2.1,fun c hc=>h.2.2.1 c (List.mem_of_mem_take hc),fun h0=>?_⟩
 obtain ⟨b,off,h1,h2,h3⟩:=h.2.2.2 (by simp at h0;omega)
 refine ⟨b,off,h1,h2,fun i c hc=>h3 i c ?_⟩
 rw [List.getElem?_take]at hc
 split at hc
 ·exact hc
 ·simp at hc
theorem clone_nil (cap:Nat) (w:World):Calls Tryz.prog 299 #[.slice none 0 cap] w fun e w'=>e = .returned (.slice none 0 0)∧w=w':=by
 have hq:∀ w',(binOp .eql 273 (.slice none 0 cap) (.slice none 0 0)).run Tryz.prog w' = .ok (.bool true) w':=fun w'=>Lib.run_eql_slice_nil w' 273 285 none 0 cap 0 0 Tryz.underlying273
 go_enter Tryz.func299,Tryz.ntmps299
 go_wp2
 go_ret
 exact ⟨rfl,rfl⟩
theorem clone_all (a:Option Addr) (cap:Nat) (l:List Ch) (w:World) (h:ChIs w a cap l) (hl:l.length≤100000) :
  Calls Tryz.prog 299 #[.slice a l.length cap] w fun e w'=>∃ v,e = .returned v∧Sl w' (fun b=>w.heap.size≤b) 285 2 v (ccells l) l.length∧Turned (fun _=>False) w w':=by
 cases a with
 |some ad=>exact clone_any (some ad) cap l w h (by simp) hl
 |none=>
  have:l=[]:=by
   apply List.eq_nil_of_length_eq_zero
   apply Classical.byContradiction
   intro q
   obtain ⟨b,off,h1,-⟩:=h.2.2.2 (by omega)
   simp at h1
  subst this
  refine (clone_nil cap w).mono ?_
  rintro e w' ⟨rfl,rfl⟩
  exact ⟨_,rfl,Sl.nil _ _ _ _,Turned.refl _ _⟩
def B1 (w:World) (l:List Ch) (g:Nat) (sz i:Value) (wr:World):Prop:=
 ∃ j:Nat,j+g=l.length∧i = .int .i64 j∧sz = .int .i64 ((10+8 * l.length+dataSize (l.take j):Nat):Int)∧checkCh [] l=checkCh (l.take j) (l.drop j)∧Turned (fun _=>False) w wr
theorem dataSize_take (l:List Ch) (j:Nat) (c:Ch) (h:l[j]? = some c):dataSize (l.take (j+1))=dataSize (l.take j)+c.2.size:=by
 rw [List.take_add_one,h,dataSize_append]
 simp [dataSize]
theorem dataSize_le (l:List Ch) (h:Small l):dataSize l≤l.length * 140737488355328:=by
 induction l with
 |nil=>simp [dataSize]
 |cons c l ih=>
  have h1:=(h c (by simp)).2
  have h2:=ih fun d hd=>h d (List.mem_cons_of_mem _ hd)
  simp only [dataSize,List.length_cons,Nat.add_mul]
  omega
theorem size_le_data (l:List Ch) (c:Ch) (h:c∈l):c.2.size≤dataSize l:=by
 induction l with
 |nil=>simp at h
 |cons d l ih=>
  rw [dataSize]
  rcases List.mem_cons.1 h with rfl|h
  ·omega
  ·have:=ih h;omega
theorem wr_bound {w:World} {S:Nat→Prop} {p:Nat} {bs:List UInt8} (h:Wr w S p bs):Wr w (fun b=>S b∧b<w.heap.size) p bs:=by
 obtain ⟨h1,v,R,h2,h3,h4,h5⟩:=h
 exact ⟨⟨h1,lt_of_block h2⟩,v,fun b=>R b∧b<w.heap.size,h2,sl_bound h3,fun q=>h4 q.1,fun b q=>⟨h5 b q.1,q.2⟩⟩
theorem sealed_bytes (bs:List UInt8):sealed ⟨bs.toArray⟩=⟨(bs ++ num (Crc.sum (nums ⟨bs.toArray⟩)) 4).toArray⟩:=by
 unfold sealed
 apply ByteArray.ext
 simp
def B2 (w2:World) (L:Nat) (pre:List UInt8) (f:Nat→List UInt8) (g:Nat) (i:Value) (wr:World):Prop:=
 ∃ j:Nat,j+g=L∧i = .int .i64 j∧Wr wr (fun b=>w2.heap.size≤b) w2.heap.size (pre ++ f j)∧Turned (fun b=>w2.heap.size≤b) w2 wr
set_option maxHeartbeats 4000000 in
theorem build_any (a:Option Addr) (cap:Nat) (l:List Ch) (w:World) (h:ChIs w a cap l) :
  Calls Tryz.prog 222 #[.slice a l.length cap] w fun e w'=>e = .returned (buildV l)∧Turned (fun _=>False) w w':=by
 have H:Hid (ChIs w a cap l):=h
 obtain ⟨L,hL⟩:∃ L,L=l.length:=⟨_,rfl⟩
 have HL:Hid (L=l.length):=hL
 by_cases h16:16<L
 ·have HB : Hid (buildV l = .tuple #[.string ⟨#[]⟩, .int .i64 5]) := by
   have:buildErr l=5:=by unfold buildErr;rw [if_pos (by omega)]
   show buildV l=_
   unfold buildV
   rw [this];rfl
  rw [←hL]
  clear h hL
  go_enter Tryz.func222,Tryz.ntmps222
  go_wp2
  go_ret2
  exact ⟨by rw [HB.out];rfl,Turned.refl _ _⟩
 ·have hds : ∀ j, dataSize (l.take j) ≤ 16 * 140737488355328 := fun j => by
   have h1:=dataSize_le (l.take j) fun c hc=>h.2.2.1 c (List.mem_of_mem_take hc)
   have h2:(l.take j).length≤16:=by simp;omega
   exact Nat.le_trans h1 (Nat.mul_le_mul_right _ h2)
  have DS:Hid (∀ j,dataSize (l.take j)≤16 * 140737488355328):=hds
  have H16:Hid (L≤16):=(by omega:L≤16)
  have hsl:∀ j W,j≤L→(Instr.slice 273 (.slice a L cap) none (some (.int .i64 (j:Nat))) none).run Tryz.prog W = .ok (.slice a j cap) W:=fun j W hj=>by
   have:=chs_to h j (by omega) W
   rw [←hL]at this
   exact this
  have HSL:Hid (∀ j W,j≤L→(Instr.slice 273 (.slice a L cap) none (some (.int .i64 (j:Nat))) none).run Tryz.prog W = .ok (.slice a j cap) W):=hsl
  have HS:Hid (B1 w l L (.int .i64 (10+8 * (L:Int))) (.int .i64 0) w):=⟨0,by omega,rfl,by rw [←hL];simp [dataSize],rfl,Turned.refl _ _⟩
  rw [←hL]
  clear h hL hds hsl
  go_enter Tryz.func222,Tryz.ntmps222
  go_wp2
  go_loopg [4,22] L (fun g sz i wr=>B1 w l g sz i wr)
  case atStart=>exact HS.out
  case round=>
   obtain ⟨j,hjg,rfl,rfl,hck,ht⟩:=hrel
   have T:Hid (Turned (fun _=>False) w wr):=ht
   have G:Hid (j+gk=l.length):=hjg
   have CK:Hid (checkCh [] l=checkCh (l.take j) (l.drop j)):=hck
   clear hjg hck ht HS
   by_cases hlt:j<L
   ·obtain ⟨c, hc⟩ : ∃ c, l[j]? = some c := ⟨_, List.getElem?_eq_getElem (by rw [← HL.out]; exact hlt)⟩
    obtain ⟨b,off,rfl,hbw,c0,c1⟩:=chIs_any (H.out.turned T.out) j c hc
    have hj2:=(List.getElem?_eq_some_iff.1 hc).1
    have hcj:c=l[j]:=(List.getElem?_eq_some_iff.1 hc).2.symm
    have hdr:l.drop j=c :: l.drop (j+1):=by rw [List.drop_eq_getElem_cons hj2,hcj]
    have hckk:=CK.out
    rw [hdr,checkCh]at hckk
    have DR:Hid (l[j]? = some c∧c∈l):=⟨hc,List.mem_of_getElem? hc⟩
    have hs1:=HSL.out j (wr.alloc (.cells #[.int .u32 (c.1:Nat),.string c.2] 285)) (by omega)
    have hsz:=DS.out (j+1)
    have hds:=dataSize_take l j c hc
    clear hc hj2 hcj hdr
    by_cases h0:c.1=0
    ·rw [if_pos h0] at hckk
     have HB:Hid (buildV l = .tuple #[.string ⟨#[]⟩,.int .i64 1]):=by
      have:buildErr l=1:=by
       unfold buildErr
       rw [if_neg (by have:=H16.out;have:=HL.out;omega),if_pos (by omega),hckk]
      show buildV l=_
      unfold buildV
      rw [this];rfl
     have hd:((c.1:Int) == 0)=true:=by simp;omega
     clear hckk h0 hsz hds hs1
     go_wp2
     go_ret2
     exact ⟨by rw [HB.out];rfl,T.out.new _⟩
    ·rw [if_neg h0] at hckk
     have hd:((c.1:Int) == 0)=false:=by simp;omega
     have hcon:Calls Tryz.prog 297 #[.slice (some ⟨b,off,none⟩) j cap,.func (.func 298) #[] #[pt wr.heap.size]] (wr.alloc (.cells #[.int .u32 (c.1:Nat),.string c.2] 285)) fun e w'=>e = .returned (.bool (hasCh (l.take j) c.1))∧Turned (fun _=>False) (wr.alloc (.cells #[.int .u32 (c.1:Nat),.string c.2] 285)) w':=by
      have:=containsFunc_any (some ⟨b,off,none⟩) cap wr.heap.size (l.take j) c (wr.alloc (.cells #[.int .u32 (c.1:Nat),.string c.2] 285)) (((H.out.take j (by have:=HL.out;omega)).turned T.out).turned (Turned.alloc _ _ _)) (cell_of (heap_alloc_last wr _) 0 _ rfl)
      rw [List.length_take,Nat.min_eq_left (by have:=HL.out;omega)]at this
      exact this
     by_cases hh:hasCh (l.take j) c.1=true
     ·rw [if_pos hh] at hckk
      rw [hh]at hcon
      have HB:Hid (buildV l = .tuple #[.string ⟨#[]⟩,.int .i64 11]):=by
       have:buildErr l=11:=by
        unfold buildErr
        rw [if_neg (by have:=H16.out;have:=HL.out;omega),if_pos (by omega),hckk]
       show buildV l=_
       unfold buildV
       rw [this];rfl
      clear hckk h0 hsz hds hh
      go_wp2_with (go_at_call 297;(with_reducible refine hcon.mono ?_);rintro e w2 ⟨rfl,ht2⟩)
      go_ret2
      exact ⟨by rw [HB.out];rfl,(T.out.new _).trans ht2 fun _ _ q=>q⟩
     ·have hh2 : hasCh (l.take j) c.1 = false := by simpa using hh
      rw [if_neg hh]at hckk
      rw [hh2]at hcon
      have hck2:checkCh [] l=checkCh (l.take (j+1)) (l.drop (j+1)):=by
       rw [hckk,List.take_add_one,DR.out.1];rfl
      have CK2:Hid (checkCh [] l=checkCh (l.take (j+1)) (l.drop (j+1))):=hck2
      have hwz:wrap64 (((10+8 * l.length+dataSize (l.take j):Nat):Int)+(c.2.size:Int))=((10+8 * l.length+dataSize (l.take (j+1)):Nat):Int):=by
       have:=H16.out;have:=HL.out
       rw [hds]at hsz ⊢
       simp only [wrap64];omega
      have HZ:Hid (wrap64 (((10+8 * l.length+dataSize (l.take j):Nat):Int)+(c.2.size:Int))=((10+8 * l.length+dataSize (l.take (j+1)):Nat):Int)):=hwz
      have HW:Hid (wrap64 ((j:Int)+1)=((j+1:Nat):Int)):=(by have:=H16.out;simp [wrap64];omega:wrap64 ((j:Int)+1)=((j+1:Nat):Int))
      have hcell:∀ w2,Turned (fun _=>False) (wr.alloc (.cells #[.int .u32 (c.1:Nat),.string c.2] 285)) w2→w2.cell? ⟨wr.heap.size,1,none⟩=some (.string c.2)∧wr.heap.size<w2.heap.size:=fun w2 t2=>by
       have hz:(wr.alloc (.cells #[.int .u32 (c.1:Nat),.string c.2] 285)).heap.size=wr.heap.size+1:=by simp
       refine ⟨?_,by have:=t2.size;omega⟩
       rw [World.cell?_of_block (w':=w2) (t2.block wr.heap.size (by omega) fun q=>q)]
       exact cell_of (heap_alloc_last wr _) 1 _ rfl
      have HC:Hid (∀ w2,Turned (fun _=>False) (wr.alloc (.cells #[.int .u32 (c.1:Nat),.string c.2] 285)) w2→w2.cell? ⟨wr.heap.size,1,none⟩=some (.string c.2)∧wr.heap.size<w2.heap.size):=hcell
      clear hckk h0 hsz hds hh hh2 hck2 hwz hcell
      generalize 10+8 * l.length+dataSize (l.take j)=sz at *
      go_wp2_with (go_at_call 297;(with_reducible refine hcon.mono ?_);rintro e w2 ⟨rfl,ht2⟩;obtain ⟨hc2,hlt2⟩:=HC.out w2 ht2)
      go_roundg (gk - 1)
      case measure=>have:=G.out;have:=HL.out;omega
      case rel=>exact ⟨j+1,by have:=G.out;have:=HL.out;omega,by first|rw [HW.out]|simp,by rw [HZ.out],CK2.out,(T.out.new _).trans ht2 fun _ _ q=>q⟩
   ·have hj : j = L := by have := G.out; have := HL.out; omega
    subst hj
    have htl:l.take j=l:=List.take_of_length_le (by have:=HL.out;omega)
    have hck0:checkCh [] l=0:=by rw [CK.out,List.drop_of_length_le (by have:=HL.out;omega)];rfl
    rw [htl]
    obtain ⟨N,hN⟩:∃ N,N=10+8 * l.length+dataSize l:=⟨_,rfl⟩
    have HN:Hid (N=10+8 * l.length+dataSize l):=hN
    have HK:Hid (checkCh [] l=0):=hck0
    rw [←hN]
    clear hN hck0 htl hlt
    by_cases hbig:4194304<N
    ·have hd : decide ((4194304 : Int) < (N : Int)) = true := by simp; omega
     have hd2:decide (4194304<N)=true:=by simp;omega
     have HB:Hid (buildV l = .tuple #[.string ⟨#[]⟩,.int .i64 5]):=by
      have:buildErr l=5:=by
       unfold buildErr
       rw [if_neg (by have:=H16.out;have:=HL.out;omega),if_neg (by rw [HK.out];simp),if_pos (by have:=HN.out;omega)]
      show buildV l=_
      unfold buildV
      rw [this];rfl
     clear hbig
     go_wp2
     go_ret2
     exact ⟨by rw [HB.out];rfl,T.out⟩
    ·have hd : decide ((4194304 : Int) < (N : Int)) = false := by simp; omega
     have hd2:decide (4194304<N)=false:=by simp;omega
     have HB:Hid (buildV l = .tuple #[.string (built l),.int .i64 0]):=by
      have:buildErr l=0:=by
       unfold buildErr
       rw [if_neg (by have:=H16.out;have:=HL.out;omega),if_neg (by rw [HK.out];simp),if_neg (by have:=HN.out;omega)]
      show buildV l=_
      unfold buildV
      rw [this];rfl
     have HD:Hid (dataSize l≤4194304):=(by have:=HN.out;omega:dataSize l≤4194304)
     clear hbig
     have hcl:=clone_all a cap l wr (H.out.turned T.out) (by have:=H16.out;have:=HL.out;omega)
     rw [←HL.out]at hcl
     have HND:Hid ((l.map (·.1)).Nodup):=(checkCh_ok l [] HK.out (by simp)).1
     have hm5:((j:Nat):Int) % 256=(j:Int):=by have:=H16.out;omega
     go_wp2_with (first
      |(go_at_call 299;(with_reducible refine hcl.mono ?_);rintro e w1 ⟨v,rfl,hsl,ht1⟩;obtain ⟨sa,scap,hv,hsc1,hsc2⟩:=hsl.value;subst hv;have T1:Hid (Turned (fun _=>False) w w1):=T.out.trans ht1 fun _ _ q=>q;have hsort:=sortf_any l (v:=.slice sa j scap) (by rw [←HL.out];exact sl_bound hsl) HND.out (by have:=H16.out;have:=HL.out;omega);clear hsl ht1)
      |(go_at_call 300;(with_reducible refine hsort.mono ?_);rintro e w2 ⟨rfl,hsl2,ht2⟩;have T2:Hid (Turned (fun b=>wr.heap.size≤b∧b<w1.heap.size) w1 w2):=ht2;have SL2:Hid (Sl w2 (fun b=>wr.heap.size≤b∧b<w1.heap.size) 285 2 (.slice sa j scap) (ccells (sortCh l)) l.length):=hsl2;have nw:=newWriter_any w2;clear hsort hsl2 ht2)
      |(go_at_call 145;(with_reducible refine nw.mono ?_);rintro e w3 ⟨rfl,hwr,ht3,hsz3⟩;have hraw:=raw_up ⟨#[80,68,71,67,1]⟩ w3 hwr (by omega) (by simp [ByteArray.size]);have Z3:Hid (w3.heap.size=w2.heap.size+1∧Turned (fun _=>False) w2 w3):=⟨hsz3,ht3⟩;clear nw hwr hsz3 ht3)
      |(go_at_call 149;(with_reducible refine hraw.mono ?_);rintro e w4 ⟨rfl,hwr4,ht4⟩;have hu8:=u8_up j w4 hwr4 (by have:=ht4.size;have:=Z3.out.1;omega) (by have:=H16.out;omega) (by simp);have Z4:Hid (Turned (fun b=>w2.heap.size≤b) w2 w4):=(Z3.out.2.mono fun _ _ q=>q.elim).trans ht4 fun _ _ q=>q;clear hraw hwr4 ht4)
      |(go_at_call 148;(with_reducible refine hu8.mono ?_);rintro e w5 ⟨rfl,hwr5,ht5⟩;have Z5:Hid (Wr w5 (fun b=>w2.heap.size≤b) w2.heap.size (magicC ++ num j 1)∧Turned (fun b=>w2.heap.size≤b) w2 w5):=⟨hwr5,Z4.out.trans ht5 fun _ _ q=>q⟩;clear hu8 hwr5 ht5))
     have HS2:Hid (B2 w2 j (magicC ++ num j 1) (fun k=>tableCh ((sortCh l).take k)) j (.int .i64 0) w5):=⟨0,by omega,rfl,by simpa [tableCh] using Z5.out.1,Z5.out.2⟩
     have hsl2:(sortCh l).length=l.length:=sortCh_length l
     have HLS:Hid ((sortCh l).length=j):=(hsl2.trans HL.out.symm)
     clear hsl2
     clear hcl hd hd2 hm5
     obtain ⟨wo,rfl⟩:∃ x:World,x=wr:=⟨wr,rfl⟩
     have SUP:Hid (∀ (i:Nat) (c:Ch),(sortCh l)[i]? = some c→c.1<4294967296∧c.2.size≤4194304):=fun i c hc=>by
      have hm:c∈l:=(sortCh_perm l).mem_iff.1 (List.mem_of_getElem? hc)
      refine ⟨(H.out.2.2.1 c hm).1,?_⟩
      exact Nat.le_trans (size_le_data l c hm) HD.out
     have CELL:Hid (∀ (i:Nat) (c:Ch) (wq:World),(sortCh l)[i]? = some c→Turned (fun b=>w2.heap.size≤b) w2 wq→∃ g off,sa=some ⟨g,off,none⟩∧g<wq.heap.size∧wq.cell? ⟨g,off+i * 2,none⟩=some (.int .u32 (c.1:Nat))∧wq.cell? ⟨g,off+i * 2+1,none⟩=some (.string c.2)):=fun i c wq hc ht=>by
      have hi:=(List.getElem?_eq_some_iff.1 hc).1
      have hln:=sortCh_length l
      obtain ⟨g,off,cap2,hv,-,-,-,hcl,-,hgl⟩:=(SL2.out.turned ht fun b q z=>by have:=T2.out.size;omega).opens (by omega)
      injection hv with e1 e2 e3
      exact ⟨g,off,e1,hgl,(hcl (i * 2) (by omega)).trans (ccells_get _ i c hc).1,(hcl (i * 2+1) (by omega)).trans (ccells_get _ i c hc).2⟩
     go_loopg [59] j (fun g i wr=>B2 w2 j (magicC ++ num j 1) (fun k=>tableCh ((sortCh l).take k)) g i wr)
     case atStart=>exact HS2.out
     case round=>
      obtain ⟨i,hig,rfl,hwq,htq⟩:=hrel
      have W:Hid (Wr wr (fun b=>w2.heap.size≤b) w2.heap.size (magicC ++ num j 1 ++ tableCh ((sortCh l).take i))):=hwq
      have TQ:Hid (Turned (fun b=>w2.heap.size≤b) w2 wr):=htq
      have GI:Hid (i+gk=j):=hig
      clear hwq htq hig HS2
      by_cases hlt:i<j
      ·obtain ⟨c, hc⟩ : ∃ c, (sortCh l)[i]? = some c := ⟨_, List.getElem?_eq_getElem (by rw [HLS.out]; exact hlt)⟩
       obtain ⟨g,off,rfl,hgl,c0,c1⟩:=CELL.out i c wr hc TQ.out
       obtain ⟨s1,s2⟩:=SUP.out i c hc
       have hlen:(magicC ++ num j 1 ++ tableCh ((sortCh l).take i)).length≤1000:=by
        simp [magicC,num_length,tableCh_length]
        have:=H16.out
        omega
       have hA:=u32_any c.1 (wr.alloc (.cells #[.int .u32 (c.1:Nat),.string c.2] 285)) ((wr_bound W.out).turned (Turned.alloc (fun _=>False) wr _) fun _ _ q=>q) s1 (by omega)
       have hcell:∀ w4,Turned (fun b=>w2.heap.size≤b∧b<wr.heap.size) (wr.alloc (.cells #[.int .u32 (c.1:Nat),.string c.2] 285)) w4→w4.cell? ⟨wr.heap.size,1,none⟩=some (.string c.2)∧wr.heap.size<w4.heap.size:=fun w4 t4=>by
        have hz:(wr.alloc (.cells #[.int .u32 (c.1:Nat),.string c.2] 285)).heap.size=wr.heap.size+1:=by simp
        refine ⟨?_,by have:=t4.size;omega⟩
        rw [World.cell?_of_block (w':=w4) (t4.block wr.heap.size (by omega) fun q=>by omega)]
        exact cell_of (heap_alloc_last wr _) 1 _ rfl
       have HC:Hid (∀ w4,Turned (fun b=>w2.heap.size≤b∧b<wr.heap.size) (wr.alloc (.cells #[.int .u32 (c.1:Nat),.string c.2] 285)) w4→w4.cell? ⟨wr.heap.size,1,none⟩=some (.string c.2)∧wr.heap.size<w4.heap.size):=hcell
       have HLN:Hid ((magicC ++ num j 1 ++ tableCh ((sortCh l).take i)).length≤1000∧c.2.size≤4194304∧(sortCh l)[i]? = some c):=⟨hlen,s2,hc⟩
       have hm:((c.2.size:Nat):Int) % 4294967296=(c.2.size:Int):=by omega
       clear hc hcell hlen s1 s2
       go_wp2_with (first
        |(go_at_call 150;(with_reducible refine hA.mono ?_);rintro e w4 ⟨rfl,hwr4,ht4⟩;obtain ⟨hc4,hl4⟩:=HC.out w4 ht4;have hB:=u32_up c.2.size w4 (hwr4.widen fun b q=>(q.elim (fun q=>q.1) fun q=>by have:=TQ.out.size;have h1:(wr.alloc (.cells #[.int .u32 (c.1:Nat),.string c.2] 285)).heap.size=wr.heap.size+1:=(by simp);omega:w2.heap.size≤b)) (by have:=TQ.out.size;omega) (by have:=HLN.out.2.1;omega) (by have:=HLN.out.1;simp only [List.length_append,num_length]at this ⊢;omega);have T4:Hid (Turned (fun b=>w2.heap.size≤b∧b<wr.heap.size) (wr.alloc (.cells #[.int .u32 (c.1:Nat),.string c.2] 285)) w4):=ht4;clear hwr4 ht4)
        |(go_at_call 150;(with_reducible refine hB.mono ?_);rintro e w6 ⟨rfl,hwr6,ht6⟩))
       go_roundg (gk - 1)
       case measure=>have:=GI.out;omega
       case rel=>
        refine ⟨i+1,by have:=GI.out;omega,by simp,?_,((TQ.out.new _).trans (T4.out.mono fun b hb q=>q.1) fun _ _ q=>q).trans ht6 fun _ _ q=>q⟩
        have e1:tableCh ((sortCh l).take (i+1))=tableCh ((sortCh l).take i) ++ (num c.1 4 ++ num c.2.size 4):=by
         rw [List.take_add_one,HLN.out.2.2,tableCh_append]
         simp [tableCh]
        show Wr w6 _ _ (magicC ++ num j 1 ++ tableCh ((sortCh l).take (i+1)))
        rw [e1]
        simpa [List.append_assoc] using hwr6
      ·have hi : i = j := by have := GI.out; omega
       subst hi
       have htk:(sortCh l).take i=sortCh l:=List.take_of_length_le (by rw [HLS.out];exact Nat.le_refl _)
       have hw0:=W.out
       rw [htk]at hw0
       have HS3:Hid (B2 w2 i (magicC ++ num i 1 ++ tableCh (sortCh l)) (fun k=>dataCh ((sortCh l).take k)) i (.int .i64 0) wr):=⟨0,by omega,rfl,by simpa [dataCh] using hw0,TQ.out⟩
       clear hw0 htk hlt W TQ
       go_wp2
       obtain ⟨wo2,rfl⟩:∃ x:World,x=wr:=⟨wr,rfl⟩
       go_loopg [76] i (fun g k wr=>B2 w2 i (magicC ++ num i 1 ++ tableCh (sortCh l)) (fun k=>dataCh ((sortCh l).take k)) g k wr)
       case atStart=>exact HS3.out
       case round=>
        obtain ⟨k,hkg,rfl,hwq,htq⟩:=hrel
        have W:Hid (Wr wr (fun b=>w2.heap.size≤b) w2.heap.size (magicC ++ num i 1 ++ tableCh (sortCh l) ++ dataCh ((sortCh l).take k))):=hwq
        have TQ:Hid (Turned (fun b=>w2.heap.size≤b) w2 wr):=htq
        have GK:Hid (k+gk=i):=hkg
        clear hwq htq hkg HS3
        have hlen:(magicC ++ num i 1 ++ tableCh (sortCh l) ++ dataCh ((sortCh l).take k)).length≤4200000:=by
         have h1:=H16.out
         have h2:=HLS.out
         have h3:dataSize ((sortCh l).take k)≤4194304:=by
          have h4:dataSize (sortCh l)=dataSize l:=dataSize_perm (sortCh_perm l)
          have h5:dataSize (sortCh l)=dataSize ((sortCh l).take k)+dataSize ((sortCh l).drop k):=by rw [←dataSize_append,List.take_append_drop]
          have:=HD.out
          omega
         simp only [List.length_append,num_length,tableCh_length,dataCh_length,magicC,List.length_cons,List.length_nil]
         omega
        by_cases hlt:k<i
        ·obtain ⟨c, hc⟩ : ∃ c, (sortCh l)[k]? = some c := ⟨_, List.getElem?_eq_getElem (by rw [HLS.out]; exact hlt)⟩
         obtain ⟨g,off,rfl,hgl,c0,c1⟩:=CELL.out k c wr hc TQ.out
         obtain ⟨s1,s2⟩:=SUP.out k c hc
         have hA:=raw_up c.2 (wr.alloc (.cells #[.int .u32 (c.1:Nat),.string c.2] 285)) (W.out.turned (Turned.alloc (fun _=>False) wr _) fun _ _ q=>q) (by have:=TQ.out.size;have h1:(wr.alloc (.cells #[.int .u32 (c.1:Nat),.string c.2] 285)).heap.size=wr.heap.size+1:=(by simp);omega) (by omega)
         have HC:Hid ((sortCh l)[k]? = some c):=hc
         clear hc hlen s1 s2
         go_wp2_with (go_at_call 149;(with_reducible refine hA.mono ?_);rintro e w4 ⟨rfl,hwr4,ht4⟩)
         go_roundg (gk - 1)
         case measure=>have:=GK.out;omega
         case rel=>
          refine ⟨k+1,by have:=GK.out;omega,by simp,?_,(TQ.out.new _).trans ht4 fun _ _ q=>q⟩
          have e1:dataCh ((sortCh l).take (k+1))=dataCh ((sortCh l).take k) ++ c.2.data.toList:=by
           rw [List.take_add_one,HC.out,dataCh_append]
           simp [dataCh]
          show Wr w4 _ _ (magicC ++ num i 1 ++ tableCh (sortCh l) ++ dataCh ((sortCh l).take (k+1)))
          rw [e1]
          simpa [List.append_assoc] using hwr4
        ·have hk : k = i := by have := GK.out; omega
         subst hk
         have htk:(sortCh l).take k=sortCh l:=List.take_of_length_le (by rw [HLS.out];exact Nat.le_refl _)
         rw [htk]at hlen
         have hw0:=W.out
         rw [htk]at hw0
         obtain ⟨bs,hbs⟩:∃ bs,bs=magicC ++ num k 1 ++ tableCh (sortCh l) ++ dataCh (sortCh l):=⟨_,rfl⟩
         rw [←hbs]at hw0 hlen
         have HBS:Hid (built l=⟨(bs ++ num (Crc.sum (nums ⟨bs.toArray⟩)) 4).toArray⟩):=by
          show built l=_
          have hb:bodyCh (sortCh l)=bs:=by rw [hbs,bodyCh,HLS.out]
          unfold built
          rw [hb,sealed_bytes]
         have WB:Hid (Wr wr (fun b=>w2.heap.size≤b) w2.heap.size bs):=hw0
         have hcrc:=crcsum_lt ⟨bs.toArray⟩
         have hby:=bytes_any wr hw0
         have hsum:=sum_one wr.heap.size 0 1 ⟨bs.toArray⟩ (wr.alloc (.cells #[.string ⟨bs.toArray⟩] 9)) (cell_of (heap_alloc_last wr _) 0 _ rfl) (by simp) (by simp [ByteArray.size];omega)
         have HLEN:Hid (bs.length≤4200000∧Crc.sum (nums ⟨bs.toArray⟩)<4294967296):=⟨hlen,hcrc⟩
         clear hw0 htk hbs hlen hcrc W hlt
         go_wp2_with (first
          |(go_at_call 151;(with_reducible refine hby.mono ?_);rintro e w4 ⟨rfl,rfl⟩)
          |(go_at_call 124;(with_reducible refine hsum.mono ?_);rintro e w5 ⟨rfl,ht5⟩;have T5:Hid (Turned (fun _=>False) wr w5):=(Turned.alloc (fun _=>False) wr _).trans ht5 (fun _ _ q=>q);have hA:=u32_up (Crc.sum (nums ⟨bs.toArray⟩)) w5 (WB.out.turned T5.out fun _ _ q=>q) (by have:=TQ.out.size;have:=T5.out.size;omega) HLEN.out.2 (by have:=HLEN.out.1;omega);clear hsum ht5)
          |(go_at_call 150;(with_reducible refine hA.mono ?_);rintro e w6 ⟨rfl,hwr6,ht6⟩;have hby2:=bytes_any w6 hwr6)
          |(go_at_call 151;(with_reducible refine hby2.mono ?_);rintro e w7 ⟨rfl,rfl⟩))
         go_ret2
         refine ⟨by rw [HB.out,HBS.out];rfl,?_⟩
         have q1:Turned (fun b=>w2.heap.size≤b) w2 w6:=(TQ.out.trans (T5.out.mono fun _ _ q=>q.elim) fun _ _ q=>q).trans ht6 fun _ _ q=>q
         have q2:Turned (fun _=>False) w w2:=T1.out.comp T2.out fun i hi q=>q.elim id fun q=>by have:=T.out.size;omega
         exact q2.comp q1 fun i hi q=>q.elim id fun q=>by have:=q2.size;omega
def R3 (w:World) (L:Nat) (pre:List UInt8) (f:Nat→List UInt8) (g:Nat) (s i:Value) (wr:World):Prop:=
 ∃ j:Nat,j+g=L∧i = .int .i64 j∧s = .string ⟨(pre ++ f j).toArray⟩∧Turned (fun _=>False) w wr
theorem ba_size (a:List UInt8):(⟨a.toArray⟩:ByteArray).size=a.length:=by simp [ByteArray.size]
end Go.Proofs.YtofcogekgcgjhaaGreatDoor
