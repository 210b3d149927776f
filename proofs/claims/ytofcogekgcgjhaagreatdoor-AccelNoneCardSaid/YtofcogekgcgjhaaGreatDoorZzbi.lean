/- Packed. -/
import Derived.Test.YtofcogekgcgjhaaGreatDoorZzah
import Derived.Shelf.SortM.Plain
import Derived.Shelf.SortM.SortNone
import Derived.Test.YtofcogekgcgjhaaGreatDoorZzav
set_option linter.unusedVariables false
set_option linter.unusedSimpArgs false
set_option maxRecDepth 100000
namespace Go.Proofs.YtofcogekgcgjhaaGreatDoor
open Go.RowKit Go.Mine Go.Mine.Ac Go.Sort Go.Shelf
theorem ba_back (s:ByteArray):(⟨s.data.toList.toArray⟩:ByteArray)=s:=by simp
theorem sorted_is {l:List ByteArray} (hl:l.Nodup):((l.map (·.data.toList)).mergeSort fun x y=>decide (x≤y)).map (fun x=>(⟨x.toArray⟩:ByteArray))=sortN l:=by
 have hp:=List.mergeSort_perm (l.map (·.data.toList)) (fun x y=>decide (x≤y))
 have hback:(l.map (·.data.toList)).map (fun x=>(⟨x.toArray⟩:ByteArray))=l:=by
  rw [List.map_map]
  have:((fun x:List UInt8=>(⟨x.toArray⟩:ByteArray)) ∘ fun s:ByteArray=>s.data.toList)=id:=by funext s;simp
  rw [this,List.map_id]
 have hp2:=hp.map (fun x=>(⟨x.toArray⟩:ByteArray))
 rw [hback]at hp2
 refine sortN_is hl ?_ fun x=>hp2.mem_iff
 have hs:=List.pairwise_mergeSort (le:=fun (x y:List UInt8)=>decide (x≤y)) (fun a b c h1 h2=>by simp only [decide_eq_true_eq]at *;exact Std.le_trans h1 h2) (fun a b=>by simp only [Bool.or_eq_true,decide_eq_true_eq];exact Std.le_total) (l.map (·.data.toList))
 have hn:=(hp2.nodup_iff).2 hl
 rw [Rising,List.pairwise_map]
 rw [List.nodup_iff_pairwise_ne,List.pairwise_map]at hn
 refine (hs.and hn).imp fun {a b} ⟨h1,h2⟩=>?_
 simp only [lexLt,decide_eq_true_eq]at *
 rcases Std.le_iff_lt_or_eq.1 h1 with q|q
 ·exact q
 ·exact absurd (by rw [q]) h2
set_option maxHeartbeats 1000000 in
theorem sort_strings {w:World} {S:Nat→Prop} {v:Value} {l:List ByteArray} (h:Sl w S 9 1 v (l.map Value.string) l.length) (hn:l.Nodup) (hl:l.length≤1000000) :
  Calls Tryz.prog 99 #[v] w fun e w'=>e = .returned (.tuple #[])∧Sl w' S 9 1 v ((sortN l).map Value.string) l.length∧Turned S w w':=by
 have hlen:(sortN l).length=l.length:=by
  rw [←sorted_is hn,List.length_map,List.length_mergeSort,List.length_map]
 rcases h.2 with ⟨rfl,h0⟩|⟨g,off,cap,cur,rfl,hS,hg,h1,h2,h3,h4⟩
 ·have hnil : l = [] := List.eq_nil_of_length_eq_zero h0
  subst hnil
  refine (AnyM.slices_Sort_string_none Tryz.ssort none 0 w).mono ?_
  rintro e w' ⟨rfl,rfl⟩
  exact ⟨rfl,h,Turned.refl _ _⟩
 ·have hlt := lt_of_block hg
  have e1:∀ (j:Nat) (s:ByteArray),l[j]? = some s→cur[off+j]? = some (.string s):=fun j s hj=>by
   have hjl:=(List.getElem?_eq_some_iff.1 hj).1
   have:=congrArg (fun x=>x[j]?) h4
   simp only [List.getElem?_map,hj,Option.map_some,List.getElem?_take,List.getElem?_drop,Nat.mul_one,hjl,if_true,Array.getElem?_toList]at this
   exact this
  have hH:Holds encStr w g off (l.map (·.data.toList)).toArray:=by
   intro j hj
   simp only [List.size_toArray,List.length_map]at hj
   have hjj:=List.getElem?_eq_getElem hj
   refine ⟨?_,free_of hg _⟩
   have hx:(l.map (·.data.toList)).toArray[j]! = l[j].data.toList:=by
    rw [getElem!_pos _ j (by simpa using hj)]
    simp
   rw [hx]
   refine (cell_of hg _ _ (e1 j _ hjj)).trans ?_
   show _=some (Value.string ⟨(l[j].data.toList).toArray⟩)
   rw [ba_back]
  have hc:=AnyM.slices_Sort_string Tryz.ssort g off cap (l.map (·.data.toList)) w hH hlt (by rw [List.length_map];omega)
  rw [List.length_map]at hc
  refine hc.mono ?_
  rintro e w' ⟨rfl,n,os,rfl⟩
  refine ⟨rfl,?_,?_⟩
  ·refine ⟨by rw [List.length_map, hlen]; omega, .inr ⟨g, off, cap, putCells encStr off ((l.map (·.data.toList)).mergeSort fun x y => decide (x ≤ y)).toArray cur, rfl, hS, ?_, h1, h2, ?_, ?_⟩⟩
   ·have hsz : g < (putRow encStr (Sort.ahead w n) g off ((l.map (·.data.toList)).mergeSort fun x y => decide (x ≤ y)).toArray).heap.size := by
     unfold putRow mapBlock;simp only [Array.size_modify];exact hlt
    show (grow _ os).heap[g]? = _
    unfold grow
    simp only []
    rw [Array.getElem?_append_left hsz]
    unfold putRow mapBlock
    simp only [Array.getElem?_modify,if_true]
    have:(Sort.ahead w n).heap[g]? = some (.cells cur 9 (0,0)):=hg
    rw [this]
    rfl
   ·unfold putCells;rw [Array.size_mapIdx];exact h3
   ·have hms : ((l.map (·.data.toList)).mergeSort fun x y => decide (x ≤ y)).length = l.length := by rw [List.length_mergeSort, List.length_map]
    apply List.ext_getElem?
    intro j
    rw [Nat.mul_one,List.getElem?_take]
    split
    ·rename_i hj
     have hss:(sortN l)[j]? = some (⟨(((l.map (fun s:ByteArray=>s.data.toList)).mergeSort fun x y=>decide (x≤y))[j]'(by omega)).toArray⟩:ByteArray):=by
      rw [←sorted_is hn,List.getElem?_map,List.getElem?_eq_getElem (by omega)];rfl
     rw [List.getElem?_map,hss,List.getElem?_drop,Array.getElem?_toList]
     unfold putCells
     rw [Array.getElem?_mapIdx,Array.getElem?_eq_getElem (by omega)]
     simp only [Option.map_some,List.size_toArray,hms]
     rw [if_pos ⟨by omega,by omega⟩,Nat.add_sub_cancel_left,getElem!_pos _ j (by simp;omega)]
     rfl
    ·rename_i hj
     rw [List.getElem?_eq_none (by rw [List.length_map,hlen];omega)]
  ·refine ⟨rfl, rfl, rfl, ?_, fun k hk hnk => ?_⟩
   ·unfold grow putRow mapBlock Sort.ahead;simp
   ·have hkg : g ≠ k := fun q => hnk (q ▸ hS)
    unfold grow putRow mapBlock
    simp only []
    rw [Array.getElem?_append_left (by simp only [Array.size_modify];exact hk),Array.getElem?_modify,if_neg hkg]
    rfl
end Go.Proofs.YtofcogekgcgjhaaGreatDoor
namespace Go.Proofs.YtofcogekgcgjhaaGreatDoor
open Go.RowKit Go.Mine Go.Mine.Ac
theorem infoS9:(Tryz.prog.info? 9).map (fun i=>(i.zero,i.size,i.bytes))=some (some (.string ⟨#[]⟩),1,16):=by kernel_rfl
def NmRel (es:Array MapEntry) (clock ms r:Nat) (w1:World) (g:Nat) (lv:Value) (wr:World):Prop:=
  ∃ (seen:Array Nat) (vis:List MapEntry) (c0:Nat) (S1:Nat→Prop),(leftOf es seen).size=g∧Sl wr S1 9 1 lv (vis.map fun e=>e.key) vis.length∧(∀ b,S1 b→r<b)∧Visit es seen vis ∧
    wr.heap[r]? = some (.mapIter (some ms) clock seen c0)∧clock≤c0∧wr.heap[ms]? = some (.map es clock)∧Turned (· = r) w1 wr
def NamesPost (w:World) (D:Dk) (e:Ending) (w' : World):Prop:=
  ∃ v,e = .returned v∧Sl w' (fun b=>w.heap.size≤b) 9 1 v (D.names.map Value.string) D.names.length∧Turned (fun _=>False) w w'
theorem names_sort {D:Dk} {es:Array MapEntry} (ho:D.off=false) (hk:(es.toList.map (·.key)).Perm ((D.seen.map (·.1)).map Value.string)) (hnd:(D.seen.map (·.1)).Nodup) {w:World} {S:Nat→Prop} {v:Value} {vis:List MapEntry} {n:Nat}
    (hn:n=vis.length) (hv:vis.Perm es.toList) (h64:es.toList.length≤64) (hs:Sl w S 9 1 v (vis.map fun e=>e.key) n) :
    Calls Tryz.prog 99 #[v] w fun e w'=>e = .returned (.tuple #[])∧(Sl w' S 9 1 v (D.names.map Value.string) n∧D.names.length=n)∧Turned S w w':=by
  obtain ⟨ns,h1,h2⟩:=perm_map_inv ((hv.map (·.key)).trans hk) (D.seen.map (·.1)) rfl
  have hnn:ns.Nodup:=(h1.nodup_iff).2 hnd
  have hl:ns.length=n:=by
    have:=congrArg List.length h2
    simp only [List.length_map]at this
    omega
  have hD:D.names=sortN ns:=by
    unfold Dk.names
    rw [ho]
    simp only [Bool.false_eq_true,if_false]
    refine sortN_is hnn (sortN_rising _ hnd) fun x=>?_
    rw [sortN_mem]
    exact (h1.mem_iff).symm
  have hlen:D.names.length=n:=by
    rw [hD,←sorted_is hnn,List.length_map,List.length_mergeSort,List.length_map,hl]
  have hvl:=hv.length_eq
  have hs' : Sl w S 9 1 v (ns.map Value.string) ns.length:=by
    rw [←h2,hl];exact hs
  refine (sort_strings hs' hnn (by omega)).mono ?_
  rintro e w' ⟨rfl,q1,q2⟩
  rw [←hD,hl]at q1
  exact ⟨rfl,⟨q1,hlen⟩,q2⟩
set_option maxHeartbeats 1000000 in
theorem fnames_any {w:World} {rl:Nat→Nat} {d ms mf:Nat} {pv:Value} {F:Nat→Nat} {D:Dk} (h:FsAt w rl d ms mf pv F D) (hok:D.Ok) :
    Calls Tryz.prog 36 #[pt d] w (NamesPost w D):=by
  obtain ⟨P,hP⟩:∃ P,P=NamesPost w D:=⟨_,rfl⟩
  have HP:Hid (P=NamesPost w D):=hP
  rw [←hP]
  clear hP
  have c6:=cell_of h.blk 6 _ rfl
  have c2:=cell_of h.blk 2 _ rfl
  have hlt:=lt_of_block h.blk
  cases ho:D.off with
  |true=>
    rw [ho]at c6
    have HO:Hid (D.off=true):=ho
    clear h hok ho
    go_enter Tryz.func36,Tryz.ntmps36
    go_wp2
    rw [HP.out]
    refine ⟨_,rfl,?_,Turned.refl _ _⟩
    have:D.names=[]:=by simp [Dk.names,HO.out]
    rw [this]
    exact Sl.nil _ _ _ _
  |false=>
    rw [ho]at c6
    have HO:Hid (D.off=false):=ho
    obtain ⟨es,clock,hes,hbo,hbn⟩:=h.bs
    obtain ⟨hk,hent⟩:=mapN_keys h.seen hok.seenOk.nodup hes
    have hmany:=hok.seenOk.many
    have hkl:=hk.length_eq
    simp only [List.length_map]at hkl
    have hrg:(Instr.range 145 (.map (some ms))).run Tryz.prog w = .ok (.pointer (some ⟨w.heap.size,0,none⟩)) (w.alloc (.mapIter (some ms) clock #[] clock)):=run_range_map w 145 9 153 ms _ _ Tryz.underlying145 hes
    have msl:=h.seen.lt
    obtain ⟨r,hr⟩:∃ r,r=w.heap.size:=⟨_,rfl⟩
    obtain ⟨w1,hw1⟩:∃ w1,w1=w.alloc (.mapIter (some ms) clock #[] clock):=⟨_,rfl⟩
    have T1:Turned (fun _=>False) w w1:=by rw [hw1];exact Turned.alloc _ _ _
    have hsz1:r<w1.heap.size:=by rw [hw1,hr];simp
    have B0:Hid (NmRel es clock ms r w1 (leftOf es #[]).size (.slice none 0 0) w1):=
      ⟨#[],[],clock,fun _=>False,rfl,Sl.nil _ _ _ _,fun _ q=>q.elim,Visit.start es,by rw [hw1,hr];exact heap_alloc_new _ _,Nat.le_refl _,by rw [hw1];exact (alloc_old _ msl).trans hes,Turned.refl _ _⟩
    have HE:Hid (∀ e∈es.toList,∃ s,e.key = .string s):=hidS fun e he=>by obtain ⟨s,k,e1,-⟩:=hent e he;exact ⟨s,e1⟩
    have HB:Hid (∀ x∈es.toList,x.born<clock):=hbo
    have HN:Hid ((es.toList.map (·.born)).Nodup):=hbn
    have HK:Hid ((es.toList.map (·.key)).Perm ((D.seen.map (·.1)).map Value.string)∧(D.seen.map (·.1)).Nodup∧es.toList.length≤64):=⟨hk,hok.seenOk.nodup,by omega⟩
    have HT1:Hid (Turned (fun _=>False) w w1∧r=w.heap.size∧r<w1.heap.size):=⟨T1,hr,hsz1⟩
    have HSZ:Hid (w1.heap.size=r+1):=hidS (by rw [hw1,hr];simp)
    have HMS:Hid (ms<r):=hidS (by omega)
    have hwr:w.heap.size=r:=hr.symm
    rw [hwr,←hw1]at hrg
    clear hes hbo hbn hk hent hmany hkl T1 hw1 h hok hr hwr msl ho hsz1
    go_enter Tryz.func36,Tryz.ntmps36
    go_wp2
    go_loopg [3] (leftOf es #[]).size (fun g lv wr=>NmRel es clock ms r w1 g lv wr)
    case atStart=>exact B0.out
    case round=>
      obtain ⟨seen,vis,c0,S1,hg,hsl,hS1,hvis,hr,hc,hb,ht⟩:=hrel
      have HSL:Hid (Sl wr S1 9 1 u3 (vis.map fun e=>e.key) vis.length):=hsl
      have HS1:Hid (∀ b,S1 b→r<b):=hS1
      have HG:Hid ((leftOf es seen).size=gk):=hg
      have HV:Hid (Visit es seen vis):=hvis
      have HT:Hid (Turned (· = r) w1 wr):=ht
      obtain ⟨n,hn⟩:∃ n,n=vis.length:=⟨_,rfl⟩
      have HNN:Hid (n=vis.length):=hn
      obtain ⟨a,cap,hlv,-,-⟩:=hsl.value
      subst hlv
      rw [←hn]at HSL ⊢
      have HR:Hid (wr.heap[r]? = some (.mapIter (some ms) clock seen c0)):=hr
      clear hn B0 hvis hsl hS1
      go_wp2_with (first
        | (at_next; refine wpList_next_es wr rfl _ rfl r ms clock c0 seen es rfl hr hb HB.out HN.out hc ?_ ?_
           (intro h0;have H0:Hid ((leftOf es seen).size=0):=h0;have hst:=names_sort HO.out HK.out.1 HK.out.2.1 HNN.out (HV.out.done h0) HK.out.2.2 HSL.out;clear h0 hg hr hc hb ht)
           rotate_left
           intro e w3 hem hel hen hr3 hb3 ht3 hz3 hlt
           have HL:Hid ((leftOf es (seen.push e.born)).size<gk):=(by rw [←hg];exact hlt:(leftOf es (seen.push e.born)).size<gk)
           have R3:Hid (w3.heap[r]? = some (.mapIter (some ms) clock (seen.push e.born) clock)∧w3.heap[ms]? = some (.map es clock)):=⟨hr3,hb3⟩
           have T3:Hid (Turned (· = r) w1 w3):=ht.trans ht3 fun _ _ q=>q
           have V3:Hid (Visit es (seen.push e.born) (vis ++ [e])):=HV.out.step HN.out hel
           obtain ⟨s,hs⟩:=HE.out e hem
           have HKS:Hid (e.key = .string s):=hs
           have S3:Hid (Sl (w3.alloc (.cells #[.string s] 9)) S1 9 1 (.slice a n cap) (vis.map fun e=>e.key) n):=(HSL.out.turned ht3 fun b hb q=>by have:=HS1.out b hb;omega).turned (Turned.alloc (fun _=>False) _ _) fun _ _ q=>q
           have SRC:Hid (Src Tryz.prog 1 84 (.slice (some ⟨w3.heap.size,0,none⟩) 1 1) 1 [.string s] (w3.alloc (.cells #[.string s] 9))):=src_new 9 Tryz.underlying84 [.string s] (by simp [Value.oneCell']) w3
           have m1:Hid (n+1≤maxLen∧(n+1) * 16≤140737488355328):=hidS (by
             have h1:=(HV.out).length_eq
             rw [List.length_append,←HNN.out]at h1
             have h2:=HK.out.2.2
             exact ⟨by simp only [maxLen];omega,by omega⟩)
           have HZ:Hid (r<w3.heap.size):=hidS (by have h1:=HT1.out.2.2;have h2:=T3.out.size;omega)
           rw [hs]at hen ⊢
           clear hem hel hr3 hb3 ht3 hz3 hlt hg hr hc hb ht hs
           obtain ⟨ev,hev⟩:∃ ev,ev=e.val:=⟨_,rfl⟩
           rw [←hev]at hen ⊢
           clear hev)
        | (at_builtin; refine wpList_append rfl _ _ 84 84 rfl S3.out Tryz.underlying84 infoS9 rfl (by decide) rfl (.slice (some ⟨w3.heap.size, 0, none⟩) 1 1) rfl SRC.out m1.out.1 m1.out.2 ?_
           intro v4 w4 hs4 ht4
           obtain ⟨a4,cap4,hv4,-,-⟩:=hs4.value
           subst hv4
           have S4:Hid (Sl w4 _ 9 1 (.slice a4 (n+1) cap4) _ (n+1)∧Turned S1 _ w4):=⟨hs4,ht4⟩
           clear hs4 ht4)
        |(go_at_call 99;(refine hst.mono ?_);rintro e w2 ⟨rfl,q1,q2⟩;have Q1:Hid _:=hidS q1;have Q2:Hid _:=hidS q2;clear q1 q2))
      all_goals first
        | (rw [HP.out]
           refine ⟨_,rfl,?_,?_⟩
           · rw [(Q1.out).2]
             exact (Q1.out).1.widen fun b q=>by have h1:=HS1.out b q;have h2:=HT1.out.2.1;omega
           · refine (HT1.out.1.comp HT.out (T:=fun _=>False) fun i hi q=>q.elim id fun q=>by have h2:=HT1.out.2.1;omega).comp (Q2.out) fun i hi q=>q.elim id fun q=>by have h1:=HS1.out i q;have h2:=HT1.out.2.1;omega)
        | (go_roundg ((leftOf es (seen.push e.born)).size)
           case measure=>exact HL.out
           case rel=>
             have hr4:r≠w3.heap.size:=by have:=HZ.out;omega
             have hbig:∀ b,(w3.alloc (.cells #[.string s] 9)).heap.size≤b→r<b:=fun b hb=>by
               have h1:=HZ.out
               have h2:(w3.alloc (.cells #[.string s] 9)).heap.size=w3.heap.size+1:=by simp
               omega
             have t4:Turned S1 w3 w4:=(Turned.alloc S1 w3 _).trans S4.out.2 fun _ _ q=>q
             have hb4:∀ b,b≤r→b<w3.heap.size→w4.heap[b]? = w3.heap[b]? := fun b hb hl=>t4.block b hl fun q=>by have:=HS1.out b q;omega
             refine ⟨seen.push e.born,vis ++ [e],clock,More S1 (w3.alloc (.cells #[.string s] 9)),rfl,?_,fun b q=>q.elim (HS1.out b) fun q=>hbig b q,V3.out,(t4.block r (HZ.out) fun q=>by have:=HS1.out r q;omega).trans R3.out.1,Nat.le_refl _,?_,?_⟩
             · rw [List.map_append, List.length_append, ← HNN.out]
               show Sl w4 _ 9 1 _ ((vis.map fun e=>e.key) ++ [e.key]) (n+1)
               rw [HKS.out]
               exact S4.out.1
             · exact (t4.block ms (lt_of_block R3.out.2) fun q=>by have h1:=HS1.out ms q;have h2:=HMS.out;omega).trans R3.out.2
             · exact T3.out.comp t4 fun i hi q=>q.elim id fun q=>by have h1:=HS1.out i q;have h2:=HSZ.out;omega)
end Go.Proofs.YtofcogekgcgjhaaGreatDoor
