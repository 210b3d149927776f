/- Packed. -/
import Derived.Test.YtofcogekgcgjhaaGreatDoorZzaz
import Derived.Deep.AppendSrc
set_option linter.unusedVariables false
set_option linter.unusedSimpArgs false
set_option maxRecDepth 100000
namespace Go.Proofs.YtofcogekgcgjhaaGreatDoor
open Go.RowKit Go.Mine Go.Mine.Ac
/-! ### Numbers and entries,from and to slices -/
def ic (l:List Int):List Value:=l.map fun x=>Value.int .i64 x
theorem ic_len (l:List Int):(ic l).length=l.length:=by simp [ic]
theorem sl_ic {w:World} {S:Nat→Prop} {v:Value} {l:List Int} (h:Sl w S 3 1 v (ic l) l.length) (hl:∀ x∈l,I64 x):∃ a cap,v = .slice a l.length cap∧Ints w S a cap l:=by
 by_cases h0:0<l.length
 ·obtain ⟨g, off, cap, rfl, hS, hn, hc, hcell, -, hlt⟩ := h.opens h0
  refine ⟨_,cap,rfl,hn,hc,hl,fun _=>⟨g,off,rfl,hS,hlt,fun i x hx=>?_⟩⟩
  have hi:=(List.getElem?_eq_some_iff.1 hx).1
  rw [hcell _ (by rw [Nat.mul_one];exact hi)]
  simp [ic,hx]
 ·obtain ⟨a, cap, rfl, hn, hc⟩ := h.value
  exact ⟨a,cap,rfl,hn,hc,hl,fun q=>absurd q h0⟩
theorem ints_src {w:World} {S:Nat→Prop} {a:Option Addr} {cap:Nat} {l:List Int} (h:Ints w S a cap l):Src Tryz.prog 1 41 (.slice a l.length cap) l.length (ic l) w:=by
 by_cases h0:0<l.length
 ·obtain ⟨g, off, rfl, -, -, hc⟩ := h.2.2.2 h0
  refine Src.ofSlice _ Tryz.underlying41 _ _ _ _ (by simp [ic]) (fun j u hj=>?_) (fun u hu=>?_)
  ·simp only [ic, List.getElem?_map, Option.map_eq_some_iff] at hj
   obtain ⟨x,hx,rfl⟩:=hj
   rw [Addr.add_lit]
   exact hc j x hx
  ·obtain ⟨x, -, rfl⟩ := List.mem_map.1 hu
   rfl
 ·have : l = [] := List.eq_nil_of_length_eq_zero (by omega)
  subst this
  cases a with
  |none=>exact Src.ofNil _ Tryz.underlying41 cap
  |some ad=>exact Src.ofSlice _ Tryz.underlying41 ad 0 cap [] rfl (fun j u hj=>by simp at hj) fun u hu=>by simp at hu
theorem ecells_one (t:List Ent):∀ u∈ecells t,u.oneCell'=true:=by
 intro u hu
 obtain ⟨x,-,hx⟩:=List.mem_flatMap.1 hu
 simp only [List.mem_cons,List.not_mem_nil,or_false]at hx
 rcases hx with rfl|rfl <;> rfl
theorem ecells_at:∀ {t:List Ent} {j:Nat} {u:Value},(ecells t)[j]? = some u→∃ (i:Nat) (x:Ent),t[i]? = some x∧((j=i * 2∧u = .string x.1)∨(j=i * 2+1∧u = .int .u32 (x.2:Nat)))
 | [],j,u,h=>by simp [ecells]at h
 |y :: t,0,u,h=>⟨0,y,rfl,.inl ⟨rfl,by simpa [ecells] using h.symm⟩⟩
 |y :: t,1,u,h=>⟨0,y,rfl,.inr ⟨rfl,by simpa [ecells] using h.symm⟩⟩
 |y :: t,j+2,u,h=>by
  obtain ⟨i,x,h1,h2⟩:=ecells_at (t:=t) (j:=j) (by simpa [ecells] using h)
  exact ⟨i+1,x,by simpa using h1,h2.elim (fun q=>.inl ⟨by omega,q.2⟩) fun q=>.inr ⟨by omega,q.2⟩⟩
theorem ents_src {w:World} {S:Nat→Prop} {a:Option Addr} {cap:Nat} {t:List Ent} (h:Ents w S a cap t):Src Tryz.prog 2 65 (.slice a t.length cap) t.length (ecells t) w:=by
 by_cases h0:0<t.length
 ·obtain ⟨g, off, rfl, -, -, hc⟩ := h.2.2.2 h0
  refine Src.ofSlice _ Tryz.underlying65 _ _ _ _ (ecells_len t) (fun j u hj=>?_) (ecells_one t)
  obtain ⟨i,x,hx,hq⟩:=ecells_at hj
  rw [Addr.add_lit]
  rcases hq with ⟨rfl,rfl⟩|⟨rfl,rfl⟩
  ·exact (hc i x hx).1
  ·exact (hc i x hx).2
 ·have : t = [] := List.eq_nil_of_length_eq_zero (by omega)
  subst this
  cases a with
  |none=>exact Src.ofNil _ Tryz.underlying65 cap
  |some ad=>exact Src.ofSlice _ Tryz.underlying65 ad 0 cap [] rfl (fun j u hj=>by simp at hj) fun u hu=>by simp at hu
theorem ents_nil {w:World} {S:Nat→Prop} {cap:Nat} {t:List Ent} (h:Ents w S none cap t):t.length=0:=by
 apply Classical.byContradiction
 intro q
 obtain ⟨_,_,z,-⟩:=h.2.2.2 (by omega)
 simp at z
theorem ints_nil {w:World} {S:Nat→Prop} {cap:Nat} {l:List Int} (h:Ints w S none cap l):l.length=0:=by
 apply Classical.byContradiction
 intro q
 obtain ⟨_,_,z,-⟩:=h.2.2.2 (by omega)
 simp at z
/-! ### The store -/
theorem scommits_any {w:World} {rs:Nat→Nat} {p:Nat} {dv tv cv:Value} {s:St} (h:StAt 140 w rs p dv tv cv s):Calls Tryz.prog 30 #[pt p] w fun e w'=>e = .returned (.int .i64 (s.commits.length:Nat))∧w=w':=by
 obtain ⟨cvs,hs,-⟩:=h.commits
 obtain ⟨a,cap,rfl,-,-⟩:=hs.value
 have c2:=cell_of h.blk 2 _ rfl
 have hlt:=lt_of_block h.blk
 clear h hs
 go_enter Tryz.func30,Tryz.ntmps30
 go_wp2
 go_ret
 exact ⟨rfl,rfl⟩
theorem sopen_any {w:World} {rs:Nat→Nat} {p:Nat} {dv tv cv:Value} {s:St} (h:StAt 140 w rs p dv tv cv s):Calls Tryz.prog 66 #[pt p] w fun e w'=>e = .returned (.int .i64 (if s.dead then 8 else 0))∧w=w':=by
 have c3:=cell_of h.blk 3 _ rfl
 have hlt:=lt_of_block h.blk
 clear h
 obtain ⟨tr,cm,dead⟩:=s
 dsimp only at c3 ⊢
 cases dead with
 |true=>
  go_enter Tryz.func66,Tryz.ntmps66
  go_wp2
  go_ret
  exact ⟨rfl,rfl⟩
 |false=>
  go_enter Tryz.func66,Tryz.ntmps66
  go_wp2
  go_ret
  exact ⟨rfl,rfl⟩
def ComPost (w:World) (s:St) (n:Int) (e:Ending) (w' : World):Prop:=
 ∃ v,e = .returned (.tuple #[.agg #[v,.int .i64 (commitS s n).1.tree],.int .i64 ((commitS s n).2:Nat)])∧Sl w' (fun b=>w.heap.size≤b) 3 1 v (ic (commitS s n).1.par) (commitS s n).1.par.length∧Turned (fun _=>False) w w'
theorem CommitsAt.at {w:World} {rs:Nat→Nat} {cv:Value} {l:List Cm} (h:CommitsAt w rs cv l) {i:Nat} {c:Cm} (hi:l[i]? = some c):∃ g off cap a cap',cv = .slice (some ⟨g,off,none⟩) l.length cap∧g<w.heap.size∧w.cell? ⟨g,off+i * 2,none⟩=some (.slice a c.par.length cap')∧w.cell? ⟨g,off+i * 2+1,none⟩=some (.int .i64 c.tree)∧Ints w (fun b=>rs b=4) a cap' c.par:=by
 obtain ⟨cvs,hs,hc⟩:=h
 obtain ⟨a,cap',h1,h2,h3⟩:=hc i c hi
 have hl:=(List.getElem?_eq_some_iff.1 hi).1
 obtain ⟨g,off,cap,rfl,-,-,-,hcell,-,hlt⟩:=hs.opens (by omega)
 refine ⟨g,off,cap,a,cap',rfl,hlt,?_,?_,h3⟩
 ·rw [hcell _ (by omega)];exact h1
 ·rw [Nat.add_assoc,hcell _ (by omega)];exact h2
theorem commitS_some {s:St} {n:Nat} {c:Cm} (h:s.commits[n]? = some c):commitS s (n:Int)=(c,0):=by
 unfold commitS
 rw [if_neg (by omega)]
 simp [h]
theorem commitS_none {s:St} {n:Int} (h:n<0∨(s.commits.length:Int)≤n):commitS s n=(⟨[],0⟩,9):=by
 unfold commitS
 by_cases h0:n<0
 ·rw [if_pos h0]
 ·rw [if_neg h0]
  have:s.commits[n.toNat]? = none:=List.getElem?_eq_none (by omega)
  rw [this]
theorem set2 {w:World} {r:Nat} {T:TypeId} {a b:Value} (h:w.heap[r]? = some (.cells #[a,b] T)) (x y:Value):((w.setCell ⟨r,0,none⟩ x).setCell ⟨r,1,none⟩ y).heap[r]? = some (.cells #[x,y] T):=by
 have h1:=Go.Mine.heap_setCell_same h (o:=0) x
 have h2:=Go.Mine.heap_setCell_same h1 (o:=1) y
 simpa using h2
set_option maxHeartbeats 1000000 in
theorem scommit_any {w:World} {rs:Nat→Nat} {p:Nat} {dv tv cv:Value} {s:St} (h:StAt 140 w rs p dv tv cv s) (n:Int) (hL:s.commits.length≤1000000) (hP:∀ c∈s.commits,c.par.length≤1000000):Calls Tryz.prog 192 #[pt p,.int .i64 n] w (ComPost w s n):=by
 obtain ⟨D,hD⟩:∃ D,D=ComPost w s n:=⟨_,rfl⟩
 have HD:Hid (D=ComPost w s n):=hD
 rw [←hD]
 have c2:w.cell? ⟨p,2,none⟩=some cv:=cell_of h.blk 2 _ rfl
 have hlt:=lt_of_block h.blk
 by_cases hn:n<0∨(s.commits.length:Int)≤n
 ·have HC : Hid (commitS s n = (⟨[], 0⟩, 9)) := commitS_none hn
  obtain ⟨cvs,hs,-⟩:=h.commits
  obtain ⟨a,cap,rfl,-,-⟩:=hs.value
  generalize s.commits.length=L at *
  clear h hD hs hP
  by_cases h0:n<0
  ·have e1 : decide (n < 0) = true := decide_eq_true h0
   clear hn
   go_enter Tryz.func192,Tryz.ntmps192
   go_wp2
   have x0:(w.alloc (.cells #[.slice none 0 0,.int .i64 0] 55)).cell? ⟨w.heap.size,0,none⟩=some (.slice none 0 0):=cell_of (heap_alloc_new w _) 0 _ rfl
   have x1:(w.alloc (.cells #[.slice none 0 0,.int .i64 0] 55)).cell? ⟨w.heap.size,1,none⟩=some (.int .i64 0):=cell_of (heap_alloc_new w _) 1 _ rfl
   refine bodyPost_ret (v:=.tuple #[.agg #[.slice none 0 0,.int .i64 0],.int .i64 9]) (by simp [results,Tryz.results192,go_sem,x0,x1]) rfl ?_
   rw [HD.out]
   exact ⟨.slice none 0 0,by rw [HC.out];rfl,by rw [HC.out];exact Sl.nil _ _ _ _,Turned.alloc _ _ _⟩
  ·have e1 : decide (n < 0) = false := decide_eq_false h0
   have e2:decide ((L:Int)≤n)=true:=decide_eq_true (by omega)
   clear hn
   go_enter Tryz.func192,Tryz.ntmps192
   go_wp2
   have x0:(w.alloc (.cells #[.slice none 0 0,.int .i64 0] 55)).cell? ⟨w.heap.size,0,none⟩=some (.slice none 0 0):=cell_of (heap_alloc_new w _) 0 _ rfl
   have x1:(w.alloc (.cells #[.slice none 0 0,.int .i64 0] 55)).cell? ⟨w.heap.size,1,none⟩=some (.int .i64 0):=cell_of (heap_alloc_new w _) 1 _ rfl
   refine bodyPost_ret (v:=.tuple #[.agg #[.slice none 0 0,.int .i64 0],.int .i64 9]) (by simp [results,Tryz.results192,go_sem,x0,x1]) rfl ?_
   rw [HD.out]
   exact ⟨.slice none 0 0,by rw [HC.out];rfl,by rw [HC.out];exact Sl.nil _ _ _ _,Turned.alloc _ _ _⟩
 ·obtain ⟨m, rfl⟩ : ∃ m : Nat, n = (m : Int) := ⟨n.toNat, by omega⟩
  obtain ⟨c,hc⟩:∃ c,s.commits[m]? = some c:=⟨_,List.getElem?_eq_getElem (by omega)⟩
  obtain ⟨g,off,cap,a,cap',rfl,hgl,d0,d1,hI⟩:=h.commits.at hc
  have HC:Hid (commitS s (m:Int)=(c,0)):=commitS_some hc
  have HX:Hid (∀ x∈c.par,I64 x):=hI.2.2.1
  have hm:m<s.commits.length:=by omega
  have e1:decide ((m:Int)<0)=false:=decide_eq_false (by omega)
  have e2:decide ((s.commits.length:Int)≤(m:Int))=false:=decide_eq_false (by omega)
  have e3:decide (s.commits.length≤m)=false:=decide_eq_false (by omega)
  obtain ⟨V,hV⟩:∃ V,V=(w.alloc (.cells #[.slice none 0 0,.int .i64 0] 55)).alloc (.cells #[.slice a c.par.length cap',.int .i64 c.tree] 55):=⟨_,rfl⟩
  have HVV:Hid (V=(w.alloc (.cells #[.slice none 0 0,.int .i64 0] 55)).alloc (.cells #[.slice a c.par.length cap',.int .i64 c.tree] 55)):=hV
  obtain ⟨t0,t1,t2⟩:=two_boxes (w:=w) (.cells #[.slice none 0 0,.int .i64 0] 55) (.cells #[.slice a c.par.length cap',.int .i64 c.tree] 55)
  rw [←hV]at t0 t1 t2
  have T0:Hid (Turned (fun _=>False) w V):=t0
  have hcl:Hid (∀ W,Turned (fun _=>False) V W→Calls Tryz.prog 65 #[.slice a c.par.length cap'] W fun e w'=>∃ v,e = .returned v∧Sl w' (fun b=>W.heap.size≤b) 3 1 v (ic c.par) c.par.length∧Turned (fun _=>False) W w'):=fun W hW=>clone_ints (a:=a) (n:=c.par.length) (cap:=cap') (xs:=ic c.par) W (fun w' q=>ints_src (hI.turned ((T0.out.trans hW fun _ _ z=>z).trans q fun _ _ z=>z) fun _ _ z=>z)) (fun q=>by subst q;exact ints_nil hI) (by have:=hP c (List.mem_of_getElem? hc);omega)
  have HST:Hid (∀ W,Turned (fun _=>False) V W→W.heap[w.heap.size]? = some (.cells #[.slice none 0 0,.int .i64 0] 55)∧W.cell? ⟨w.heap.size+1,0,none⟩=some (.slice a c.par.length cap')∧W.cell? ⟨w.heap.size+1,1,none⟩=some (.int .i64 c.tree)∧w.heap.size+1<W.heap.size):=fun W q=>by
   have hb:=boxed t2 q id
   exact ⟨boxed t1 q id,cell_of hb 0 _ rfl,cell_of hb 1 _ rfl,lt_of_block hb⟩
  have TD:Hid (Turned (fun _=>False) V ((w.alloc (.cells #[.slice none 0 0,.int .i64 0] 55)).alloc (.cells #[.slice a c.par.length cap',.int .i64 c.tree] 55)).drew):=hidS (by rw [hV];exact Turned.drew _ _)
  obtain ⟨par,tree⟩:=c
  dsimp only at d0 d1 HX hcl HST HVV TD
  generalize s.commits.length=L at *
  clear h hD hP hn hc hI hV t0 t1 t2
  go_enter Tryz.func192,Tryz.ntmps192
  go_wp2_with fail
  go_region_with (go_at_call 65;(with_reducible refine (hcl.out _ TD.out).mono ?_);rintro e w2 ⟨v,rfl,hsl,ht⟩;replace ht:=TD.out.trans ht fun _ _ q=>q;rw [←HVV.out]at hsl;obtain ⟨a0,a1,a2,a3⟩:=HST.out w2 ht;have f0:=cell_of a0 0 _ rfl;have f1:=cell_of a0 1 _ rfl;have g0:=free_of a0 0;have g1:=free_of a0 1;have Z:Hid (Sl w2 (fun b=>V.heap.size≤b) 3 1 v (ic par) par.length∧Turned (fun _=>False) V w2∧w2.heap[w.heap.size]? = some (.cells #[.slice none 0 0,.int .i64 0] 55)):=⟨hsl,ht,a0⟩;obtain ⟨ca,cc,rfl,-,-⟩:=hsl.value;clear hsl ht hcl a0)
  all_goals go_wp2
  all_goals
   have key:=set2 Z.out.2.2 (.slice ca par.length cc) (.int .i64 tree)
   have x0:=cell_of key 0 _ rfl
   have x1:=cell_of key 1 _ rfl
   refine bodyPost_ret (v:=.tuple #[.agg #[.slice ca par.length cc,.int .i64 tree],.int .i64 0]) (by simp [results,Tryz.results192,go_sem,x0,x1]) rfl ?_
   rw [HD.out]
   have hz:V.heap.size=w.heap.size+2:=by rw [HVV.out];simp
   have t2:Turned (· = w.heap.size) w2 ((w2.setCell ⟨w.heap.size,0,none⟩ (.slice ca par.length cc)).setCell ⟨w.heap.size,1,none⟩ (.int .i64 tree)):=(Turned.setCell (S:=(· = w.heap.size)) (p:=⟨w.heap.size,0,none⟩) rfl _).set (p:=⟨w.heap.size,1,none⟩) rfl _
   refine ⟨.slice ca par.length cc,by rw [HC.out];rfl,?_,(T0.out.trans Z.out.2.1 fun _ _ q=>q).comp t2 fun i hi q=>q.elim id fun q=>by omega⟩
   rw [HC.out]
   exact (Z.out.1.turned t2 fun b hb q=>by omega).widen fun b hb=>by omega
def TreePost (w:World) (s:St) (n:Int) (e:Ending) (w' : World):Prop:=
 ∃ v,e = .returned (.tuple #[v,.int .i64 ((treeS s n).2:Nat)])∧Sl w' (fun b=>w.heap.size≤b) 96 2 v (ecells (treeS s n).1) (treeS s n).1.length∧Turned (fun _=>False) w w'
theorem TreesAt.at {w:World} {rs:Nat→Nat} {tv:Value} {l:List (List Ent)} (h:TreesAt w rs tv l) {i:Nat} {t:List Ent} (hi:l[i]? = some t):∃ g off cap a cap',tv = .slice (some ⟨g,off,none⟩) l.length cap∧g<w.heap.size∧w.cell? ⟨g,off+i,none⟩=some (.slice a t.length cap')∧Ents w (fun b=>rs b=4) a cap' t:=by
 obtain ⟨tvs,hs,hc⟩:=h
 obtain ⟨a,cap',h1,h3⟩:=hc i t hi
 have hl:=(List.getElem?_eq_some_iff.1 hi).1
 obtain ⟨g,off,cap,rfl,-,-,-,hcell,-,hlt⟩:=hs.opens (by omega)
 refine ⟨g,off,cap,a,cap',rfl,hlt,?_,h3⟩
 rw [hcell _ (by omega)];exact h1
theorem treeS_some {s:St} {n:Nat} {t:List Ent} (h:s.trees[n]? = some t):treeS s (n:Int)=(t,0):=by
 unfold treeS
 rw [if_neg (by omega)]
 simp [h]
theorem treeS_none {s:St} {n:Int} (h:n<0∨(s.trees.length:Int)≤n):treeS s n=([],9):=by
 unfold treeS
 by_cases h0:n<0
 ·rw [if_pos h0]
 ·rw [if_neg h0]
  have:s.trees[n.toNat]? = none:=List.getElem?_eq_none (by omega)
  rw [this]
set_option maxHeartbeats 1000000 in
theorem stree_any {w:World} {rs:Nat→Nat} {p:Nat} {dv tv cv:Value} {s:St} (h:StAt 140 w rs p dv tv cv s) (n:Int) (hL:s.trees.length≤1000000) (hP:∀ t∈s.trees,t.length≤1000000):Calls Tryz.prog 104 #[pt p,.int .i64 n] w (TreePost w s n):=by
 obtain ⟨D,hD⟩:∃ D,D=TreePost w s n:=⟨_,rfl⟩
 have HD:Hid (D=TreePost w s n):=hD
 rw [←hD]
 have c2:w.cell? ⟨p,1,none⟩=some tv:=cell_of h.blk 1 _ rfl
 have hlt:=lt_of_block h.blk
 by_cases hn:n<0∨(s.trees.length:Int)≤n
 ·have HC : Hid (treeS s n = ([], 9)) := treeS_none hn
  obtain ⟨cvs,hs,-⟩:=h.trees
  obtain ⟨a,cap,rfl,-,-⟩:=hs.value
  generalize s.trees.length=L at *
  clear h hD hs hP
  by_cases h0:n<0
  ·have e1 : decide (n < 0) = true := decide_eq_true h0
   clear hn
   go_enter Tryz.func104,Tryz.ntmps104
   go_wp2
   rw [HD.out]
   exact ⟨.slice none 0 0,by rw [HC.out];rfl,by rw [HC.out];exact Sl.nil _ _ _ _,Turned.refl _ _⟩
  ·have e1 : decide (n < 0) = false := decide_eq_false h0
   have e2:decide ((L:Int)≤n)=true:=decide_eq_true (by omega)
   clear hn
   go_enter Tryz.func104,Tryz.ntmps104
   go_wp2
   rw [HD.out]
   exact ⟨.slice none 0 0,by rw [HC.out];rfl,by rw [HC.out];exact Sl.nil _ _ _ _,Turned.refl _ _⟩
 ·obtain ⟨m, rfl⟩ : ∃ m : Nat, n = (m : Int) := ⟨n.toNat, by omega⟩
  obtain ⟨t,hc⟩:∃ t,s.trees[m]? = some t:=⟨_,List.getElem?_eq_getElem (by omega)⟩
  obtain ⟨g,off,cap,a,cap',rfl,hgl,d0,hI⟩:=h.trees.at hc
  have HC:Hid (treeS s (m:Int)=(t,0)):=treeS_some hc
  have hm:m<s.trees.length:=by omega
  have e1:decide ((m:Int)<0)=false:=decide_eq_false (by omega)
  have e2:decide ((s.trees.length:Int)≤(m:Int))=false:=decide_eq_false (by omega)
  have e3:decide (s.trees.length≤m)=false:=decide_eq_false (by omega)
  have hcl:Hid (∀ W,Turned (fun _=>False) w W→Calls Tryz.prog 69 #[.slice a t.length cap'] W fun e w'=>∃ v,e = .returned v∧Sl w' (fun b=>W.heap.size≤b) 96 2 v (ecells t) t.length∧Turned (fun _=>False) W w'):=fun W hW=>clone_ents (a:=a) (n:=t.length) (cap:=cap') (xs:=ecells t) W (fun w' q=>ents_src (hI.turned (hW.trans q fun _ _ z=>z) fun _ _ z=>z)) (fun q=>by subst q;exact ents_nil hI) (by have:=hP t (List.mem_of_getElem? hc);omega)
  have D0:Hid (Turned (fun _=>False) w w.drew):=Turned.drew _ _
  generalize s.trees.length=L at *
  clear h hD hP hn hc hI
  go_enter Tryz.func104,Tryz.ntmps104
  go_wp2_with (first
   |(go_at_call 69;(with_reducible refine (hcl.out _ D0.out).mono ?_);rintro e w2 ⟨v,rfl,hsl,ht⟩;have Z:Hid (Sl w2 (fun b=>w.heap.size≤b) 96 2 v (ecells t) t.length∧Turned (fun _=>False) w w2):=⟨hsl,D0.out.trans ht fun _ _ q=>q⟩;obtain ⟨ca,cc,rfl,-,-⟩:=hsl.value;clear hsl ht hcl)
   |(go_at_call 69;(with_reducible refine (hcl.out _ (Turned.refl _ _)).mono ?_);rintro e w2 ⟨v,rfl,hsl,ht⟩;have Z:Hid (Sl w2 (fun b=>w.heap.size≤b) 96 2 v (ecells t) t.length∧Turned (fun _=>False) w w2):=⟨hsl,ht⟩;obtain ⟨ca,cc,rfl,-,-⟩:=hsl.value;clear hsl ht hcl))
  all_goals
   rw [HD.out]
   exact ⟨.slice ca t.length cc,by rw [HC.out];rfl,by rw [HC.out];exact Z.out.1,Z.out.2⟩
def PcPost (w:World) (l:List Int) (e:Ending) (w' : World):Prop:=
 ∃ v,e = .returned v∧Sl w' (fun b=>w.heap.size≤b) 3 1 v (l.map fun x=>Value.int .i64 x) l.length∧Turned (fun _=>False) w w'
def intsN (l:List Nat):List Int:=l.map fun (x:Nat)=>(x:Int)
theorem placesB_bad {s:Stg} {path:ByteArray} {n:Nat} (h:¬ (goodStg s∧1≤n∧n≤4294967295)):placesB s path n=[]:=by unfold placesB;rw [if_neg h]
theorem placesB_good {s:Stg} {path:ByteArray} {n:Nat} (h:goodStg s∧1≤n∧n≤4294967295):placesB s path n=(List.range s.h.toNat).map (placeB s path n):=by unfold placesB;rw [if_pos h]
theorem addm (x k m:Nat):((x:Nat):Int)+(k:Nat)=((x+k:Nat):Int)∧(((x:Nat):Int)+(k:Nat)) % (m:Nat)=(((x+k) % m:Nat):Int):=⟨by push_cast;rfl,by push_cast;rfl⟩
theorem step32 (x k m:Nat):(((x % m:Nat):Int)+(k:Nat)) % (m:Nat)=(((x+k) % m:Nat):Int):=by push_cast;rw [Int.emod_add_emod]
def PlRel (w V:World) (s:Stg) (path:ByteArray) (n A st H:Nat) (g:Nat) (av lv iv:Value) (wr:World):Prop:=
 ∃ j:Nat,j+g=H∧iv = .int .i64 (j:Nat)∧av = .int .u32 (((A+j * st) % 4294967296:Nat):Int)∧Sl wr (fun b=>V.heap.size≤b) 3 1 lv ((intsN ((List.range j).map (placeB s path n))).map fun x=>Value.int .i64 x) j∧Turned (fun b=>V.heap.size≤b) V wr
set_option maxHeartbeats 1000000 in
theorem bplaces_any (s:Stg) (path:ByteArray) (n:Nat) (w:World) (hsd:s.seed<4294967296) (hs:path.size≤1000000000) (hn:n≤4611686018427387904) :
  Calls Tryz.prog 130 #[stgv s,.string path,.int .i64 (n:Nat)] w (PcPost w (intsN (placesB s path n))):=by
 obtain ⟨Z,hZ⟩:∃ Z,Z=PcPost w (intsN (placesB s path n)):=⟨_,rfl⟩
 have HZ:Hid (Z=PcPost w (intsN (placesB s path n))):=hZ
 rw [←hZ]
 obtain ⟨V,hV⟩:∃ V,V=w.alloc (.cells #[.int .i64 s.h,.int .i64 s.p,.int .i64 s.m,.int .u32 (s.seed:Nat)] 24):=⟨_,rfl⟩
 have HVV:Hid (V=w.alloc (.cells #[.int .i64 s.h,.int .i64 s.p,.int .i64 s.m,.int .u32 (s.seed:Nat)] 24)):=hV
 have tV:Turned (fun _=>False) w V:=by rw [hV];exact Turned.alloc _ _ _
 have xV:V.heap[w.heap.size]? = some (.cells #[.int .i64 s.h,.int .i64 s.p,.int .i64 s.m,.int .u32 (s.seed:Nat)] 24):=by rw [hV];exact heap_alloc_new _ _
 have TV:Hid (Turned (fun _=>False) w V):=tV
 have HBX:Hid (∀ W,Turned (fun b=>V.heap.size≤b) V W→W.cell? ⟨w.heap.size,0,none⟩=some (.int .i64 s.h)∧W.cell? ⟨w.heap.size,1,none⟩=some (.int .i64 s.p)∧W.cell? ⟨w.heap.size,2,none⟩=some (.int .i64 s.m)∧W.cell? ⟨w.heap.size,3,none⟩=some (.int .u32 (s.seed:Nat))∧w.heap.size<W.heap.size):=fun W q=>by
  have hb:=boxed xV q (fun z=>by have:=lt_of_block xV;omega)
  exact ⟨cell_of hb 0 _ rfl,cell_of hb 1 _ rfl,cell_of hb 2 _ rfl,cell_of hb 3 _ rfl,lt_of_block hb⟩
 have HBF:Hid (∀ W,Turned (fun _=>False) V W→W.cell? ⟨w.heap.size,0,none⟩=some (.int .i64 s.h)∧W.cell? ⟨w.heap.size,1,none⟩=some (.int .i64 s.p)∧W.cell? ⟨w.heap.size,2,none⟩=some (.int .i64 s.m)∧W.cell? ⟨w.heap.size,3,none⟩=some (.int .u32 (s.seed:Nat))∧w.heap.size<W.heap.size):=fun W q=>HBX.out W (q.mono fun _ _ z=>z.elim)
 obtain ⟨v0,v1,v2,v3,v4⟩:=HBF.out V (Turned.refl _ _)
 have hck:=bcheck_any s V
 have HCK:Hid (Calls Tryz.prog 131 #[.agg #[.int .i64 s.h,.int .i64 s.p,.int .i64 s.m,.int .u32 (s.seed:Nat)]] V fun e w'=>e = .returned (.int .i64 (if goodStg s then 0 else 1))∧Turned (fun _=>False) V w'):=hck
 by_cases hg:goodStg s
 ·rw [if_pos hg] at HCK
  by_cases h1:n<1
  ·have HE : Hid (placesB s path n = []) := placesB_bad fun q => by omega
   have d1:decide ((n:Int)<1)=true:=by simp;omega
   have d2:decide (n<1)=true:=by simp;omega
   have d3:decide (n=0)=true:=by simp;omega
   clear hZ hV tV xV hck hg hsd hs hn h1
   go_enter Tryz.func130,Tryz.ntmps130
   go_wp2_with fail
   rw [←HVV.out]
   go_wp2_with (go_at_call 131;(with_reducible refine HCK.out.mono ?_);rintro e w1 ⟨rfl,q⟩;replace q:Hid _:=hidS q)
   rw [HZ.out]
   exact ⟨.slice none 0 0,rfl,by rw [HE.out];exact Sl.nil _ _ _ _,TV.out.trans q.out fun _ _ z=>z⟩
  ·by_cases h2 : 4294967295 < n
   ·have HE : Hid (placesB s path n = []) := placesB_bad fun q => by omega
    have d1:decide ((n:Int)<1)=false:=by simp;omega
    have d2:decide (n<1)=false:=by simp;omega
    have d4:decide ((4294967295:Int)<(n:Int))=true:=by simp;omega
    have d5:decide (4294967295<n)=true:=by simp;omega
    clear hZ hV tV xV hck hg hsd hs hn h1 h2
    go_enter Tryz.func130,Tryz.ntmps130
    go_wp2_with fail
    rw [←HVV.out]
    go_wp2_with (go_at_call 131;(with_reducible refine HCK.out.mono ?_);rintro e w1 ⟨rfl,q⟩;replace q:Hid _:=hidS q)
    rw [HZ.out]
    exact ⟨.slice none 0 0,rfl,by rw [HE.out];exact Sl.nil _ _ _ _,TV.out.trans q.out fun _ _ z=>z⟩
   ·have HE : Hid (placesB s path n = (List.range s.h.toNat).map (placeB s path n)) := placesB_good ⟨hg, by omega, by omega⟩
    have d1:decide ((n:Int)<1)=false:=by simp;omega
    have d2:decide (n<1)=false:=by simp;omega
    have d4:decide ((4294967295:Int)<(n:Int))=false:=by simp;omega
    have d5:decide (4294967295<n)=false:=by simp;omega
    obtain ⟨A,hA⟩:∃ A,A=hashB s.seed path:=⟨_,rfl⟩
    obtain ⟨B,hB⟩:∃ B,B=hashB ((s.seed+1) % 4294967296) path:=⟨_,rfl⟩
    have lA:A<4294967296:=by rw [hA];exact hashB_lt _ _
    have lB:B<4294967296:=by rw [hB];exact hashB_lt _ _
    have HHA:Hid (∀ W,Turned (fun _=>False) V W→Calls Tryz.prog 218 #[.int .u32 (s.seed:Nat),.string path] W fun e w'=>e = .returned (.int .u32 (A:Nat))∧Turned (fun _=>False) V w'):=fun W q=>by
     rw [hA];exact (bhash_any s.seed path W hsd hs).mono fun e w' ⟨x,y⟩=>⟨x,q.trans y fun _ _ z=>z⟩
    obtain ⟨sd1,hs1⟩:∃ sd1,sd1=(s.seed+1) % 4294967296:=⟨_,rfl⟩
    have hsd1:((s.seed:Nat):Int)+1=((s.seed+1:Nat):Int):=by push_cast;rfl
    have hsd2:(((s.seed:Nat):Int)+1) % 4294967296=(sd1:Nat):=by rw [hs1];exact (addm s.seed 1 4294967296).2
    have hsd3:IntKind.u32.wrap (((s.seed:Nat):Int)+1)=(sd1:Nat):=by rw [IntKind.wrap_u32];exact hsd2
    have HHB:Hid (∀ W,Turned (fun _=>False) V W→Calls Tryz.prog 218 #[.int .u32 (IntKind.u32.wrap (((s.seed:Nat):Int)+1)),.string path] W fun e w'=>e = .returned (.int .u32 (B:Nat))∧Turned (fun _=>False) V w'):=fun W q=>by
     rw [hB,←hs1,hsd3];exact (bhash_any sd1 path W (by rw [hs1];exact mod32 _) hs).mono fun e w' ⟨x,y⟩=>⟨x,q.trans y fun _ _ z=>z⟩
    have hor:bits .or .u32 (B:Int) 1=((B ||| 1:Nat):Int):=u32_or_nat B 1 lB (by decide)
    obtain ⟨H,hH⟩:∃ H:Nat,s.h=(H:Int):=⟨s.h.toNat,by have:=hg.1;omega⟩
    have HH:Hid (H≤16∧s.h=(H:Int)):=⟨by have:=hg.2.1;omega,hH⟩
    have ST:Hid (∀ W,Turned (fun _=>False) V W→PlRel w V s path n A (B ||| 1) H H (.int .u32 (A:Nat)) (.slice none 0 0) (.int .i64 0) W):=fun W q=>⟨0,Nat.zero_add _,rfl,by rw [Nat.zero_mul,Nat.add_zero,Nat.mod_eq_of_lt lA],Sl.nil _ _ _ _,q.mono fun _ _ z=>z.elim⟩
    have STEP:Hid (∀ j:Nat,(((A+j * (B ||| 1)) % 4294967296:Nat):Int) % (n:Int)=((placeB s path n j:Nat):Int)∧((((A+j * (B ||| 1)) % 4294967296:Nat):Int)+((B ||| 1:Nat):Int)) % 4294967296=(((A+(j+1) * (B ||| 1)) % 4294967296:Nat):Int)∧placeB s path n j<4294967296):=fun j=>by
     refine ⟨?_,?_,?_⟩
     ·rw [hA,hB];exact (Int.natCast_emod _ _).symm
     ·rw [show (A + (j + 1) * (B ||| 1)) = A + j * (B ||| 1) + (B ||| 1) by rw [Nat.add_mul, Nat.one_mul, Nat.add_assoc]]
      exact step32 _ _ 4294967296
     ·exact Nat.lt_of_le_of_lt (Nat.mod_le _ _) (mod32 _)
    have HN:Hid ((n:Int) % 4294967296=(n:Int)∧((n:Int) == 0)=false∧¬ (n:Int)=0):=⟨by omega,by simp;omega,by omega⟩
    have HAB:Hid (A=hashB s.seed path∧B=hashB ((s.seed+1) % 4294967296) path):=⟨hA,hB⟩
    clear hH hsd1 hsd2 hsd3 hs1 hA hB hZ hV tV xV hck hsd hs hn h1 h2 lA lB
    go_enter Tryz.func130,Tryz.ntmps130
    go_wp2_with fail
    rw [←HVV.out]
    go_wp2_with (go_at_call 131;(with_reducible refine HCK.out.mono ?_);rintro e w1 ⟨rfl,q⟩;obtain ⟨c0,c1,c2,c3,c4⟩:=HBF.out w1 q;replace q:Hid _:=hidS q)
    go_region_law ((go_simp;go_at_call 218;(first|(with_reducible refine (HHA.out _ q.out).mono ?_)|(with_reducible refine (HHA.out _ q.out.draw).mono ?_)|(with_reducible refine (HHB.out _ q.out).mono ?_)|(with_reducible refine (HHB.out _ q.out.draw).mono ?_));rintro e wx ⟨rfl,qx⟩;obtain ⟨c0,c1,c2,c3,c4⟩:=HBF.out wx qx;clear q;have q:Hid _:=hidS qx;clear qx))
    all_goals go_wp2
    all_goals
     clear HHA HHB HCK d1 d2 d4 d5 v0 v1 v2 v3 v4 hor
     have hH:=HH.out.2
     rw [hH]
     clear hH
     go_loopg [7,9,33] H (fun g av lv iv wr=>PlRel w V s path n A (B ||| 1) H g av lv iv wr)
     case atStart=>exact ST.out wx q.out
     case round=>
      obtain ⟨j,hjg,rfl,rfl,hsl,ht⟩:=hrel
      have G:Hid (j+gk=H):=hjg
      have TT:Hid (Turned (fun b=>V.heap.size≤b) V wr):=ht
      obtain ⟨la,lc,rfl,-,-⟩:=hsl.value
      have SL:Hid (Sl wr (fun b=>V.heap.size≤b) 3 1 (.slice la j lc) ((intsN ((List.range j).map (placeB s path n))).map fun x=>Value.int .i64 x) j):=hsl
      clear hjg hsl ht
      by_cases hlt:j<H
      ·obtain ⟨k1, k2, k3, k4, k5⟩ := HBX.out wr TT.out
       have HW:Hid (wrap64 ((j:Int)+1)=((j+1:Nat):Int)):=hidS (by have:=HH.out;simp [wrap64];omega)
       obtain ⟨e1,e2,e3⟩:=STEP.out j
       have hn32:=HN.out.1
       have hne:=HN.out.2.1
       have hne2:=HN.out.2.2
       have hd:decide (j<H)=true:=decide_eq_true hlt
       have m1:Hid (j+1≤maxLen∧(j+1) * 8≤140737488355328):=hidS (by have:=HH.out;simp only [maxLen];omega)
       have HP:Hid (placeB s path n j<4294967296):=e3
       have HPL:Hid ((intsN ((List.range (j+1)).map (placeB s path n))).map (fun x=>Value.int .i64 x)=(intsN ((List.range j).map (placeB s path n))).map (fun x=>Value.int .i64 x) ++ [Value.int .i64 (placeB s path n j:Nat)]):=hidS (by rw [List.range_succ];simp [intsN])
       obtain ⟨x,hx⟩:∃ x,x=placeB s path n j:=⟨_,rfl⟩
       have HX:Hid (x=placeB s path n j):=hx
       rw [←hx]at e1
       have hx32:wrap64 (x:Int)=(x:Int):=by rw [←hx]at e3;simp only [wrap64];omega
       clear hx e3
       obtain ⟨a2,ha2⟩:∃ a2,a2=(A+(j+1) * (B ||| 1)) % 4294967296:=⟨_,rfl⟩
       have HA2:Hid (a2=(A+(j+1) * (B ||| 1)) % 4294967296):=ha2
       rw [←ha2]at e2
       clear ha2
       generalize (A+j * (B ||| 1)) % 4294967296=a at *
       go_wp2_with (at_builtin;refine wpList_append rfl _ _ 41 41 rfl (SL.out.turned (Turned.alloc (fun _=>False) _ _) fun _ _ q=>q) Tryz.underlying41 infoC3 rfl (by decide) rfl (.slice (some ⟨wr.heap.size,0,none⟩) 1 1) rfl (src_one Tryz.underlying41 (.int .i64 (x:Nat)) rfl wr) m1.out.1 m1.out.2 ?_;intro v5 w5 hsl5 ht5;obtain ⟨a5,c5,rfl,-,-⟩:=hsl5.value;have Y:Hid (Turned (fun b=>V.heap.size≤b) V w5):=(TT.out.new _).trans ht5 (fun _ _ q=>q);obtain ⟨k1,k2,k3,k4,k5⟩:=HBX.out w5 Y.out;have YS:Hid _:=hidS hsl5;clear hsl5 ht5)
       go_roundg (gk - 1)
       case measure=>have:=G.out;omega
       case rel=>
        refine ⟨j+1,by have:=G.out;omega,by rw [HW.out],by rw [e2,HA2.out],?_,Y.out⟩
        rw [HPL.out,←HX.out]
        refine YS.out.widen fun b hb=>?_
        rcases hb with hb|hb
        ·exact hb
        ·have h1 := TT.out.size
         have h2:(wr.alloc (Obj.cells #[Value.int IntKind.i64 (x:Nat)] 3)).heap.size=wr.heap.size+1:=by simp
         omega
      ·have hj : j = H := by have := G.out; omega
       have hd:decide (j<H)=false:=decide_eq_false hlt
       have HJ:Hid (j=H):=hj
       clear hj hlt
       go_wp2
       rw [HZ.out]
       have hl:(placesB s path n).length=j:=by rw [HE.out,List.length_map,List.length_range,HH.out.2,HJ.out];rfl
       refine ⟨.slice la j lc,rfl,?_,?_⟩
       ·have hl2 : (intsN (placesB s path n)).length = j := by unfold intsN; rw [List.length_map]; exact hl
        rw [hl2]
        have hr:(List.range j).map (placeB s path n)=placesB s path n:=by rw [HE.out,HH.out.2,HJ.out];rfl
        rw [←hr]
        exact SL.out.widen fun b hb=>by have:=TV.out.size;omega
       ·exact TV.out.comp TT.out fun i hi z=>z.elim id fun z=>by have:=TV.out.size;omega
 ·rw [if_neg hg] at HCK
  have HE:Hid (placesB s path n=[]):=placesB_bad fun q=>hg q.1
  clear hZ hV tV xV hck hg hsd hs hn
  go_enter Tryz.func130,Tryz.ntmps130
  go_wp2_with fail
  rw [←HVV.out]
  go_wp2_with (go_at_call 131;(with_reducible refine HCK.out.mono ?_);rintro e w1 ⟨rfl,q⟩;replace q:Hid _:=hidS q)
  rw [HZ.out]
  exact ⟨.slice none 0 0,rfl,by rw [HE.out];exact Sl.nil _ _ _ _,TV.out.trans q.out fun _ _ z=>z⟩
end Go.Proofs.YtofcogekgcgjhaaGreatDoor
namespace Go.Proofs.YtofcogekgcgjhaaGreatDoor
open Go.RowKit Go.Mine Go.Mine.Ac
open Classical
noncomputable def setM (l:List ByteArray):Value→Option Value
 | .string s=>if s∈l then some (.agg #[]) else none
 |_=>none
theorem setM_snoc (l:List ByteArray) (p:ByteArray) (k:Value):setM (l ++ [p]) k=if k = .string p then some (.agg #[]) else setM l k:=by
 cases k with
 |string s=>
  simp only [setM,List.mem_append,List.mem_singleton,Value.string.injEq]
  by_cases h:s=p
  ·rw [if_pos (.inr h),if_pos h]
  ·rw [if_neg h]
   by_cases h2:s∈l
   ·rw [if_pos (.inl h2),if_pos h2]
   ·rw [if_neg (fun q=>q.elim h2 h),if_neg h2]
 |_=>rw [if_neg (by simp)];rfl
theorem once_snoc_len (l:List ByteArray) (p:ByteArray):(once (l ++ [p])).length=if p∈l then (once l).length else (once l).length+1:=by
 by_cases h:p∈l
 ·rw [if_pos h]
  exact once_len (once_nodup l) fun x=>by
   rw [once_mem,List.mem_append,List.mem_singleton]
   exact ⟨.inl,fun q=>q.elim id fun e=>e ▸ h⟩
 ·rw [if_neg h]
  have:(once (l ++ [p])).length=(once l ++ [p]).length:=once_len (by
   rw [List.nodup_append]
   refine ⟨once_nodup l,by simp,?_⟩
   intro a ha b hb
   rw [List.mem_singleton]at hb
   subst hb
   rintro rfl
   exact h (once_mem.1 ha)) fun x=>by rw [List.mem_append,once_mem,List.mem_append]
  rw [this,List.length_append];rfl
theorem setM_some (l:List ByteArray) (p:ByteArray):(setM l (.string p)).isSome=decide (p∈l):=by
 simp only [setM]
 by_cases h:p∈l
 ·simp [h]
 ·simp [h]
theorem set_keys {w:World} {b n:Nat} {l:List ByteArray} (h:MapIs KStr w b (setM l) n) {es:Array MapEntry} {clock:Nat} (hb:w.heap[b]? = some (.map es clock)) :
  (es.toList.map (·.key)).Perm ((once l).map Value.string)∧∀ e∈es.toList,∃ s,e.key = .string s:=by
 obtain ⟨es',clock',h1,h2,h3,h4,h5,h6⟩:=h
 rw [hb]at h1
 simp only [Option.some.injEq,Obj.map.injEq]at h1
 obtain ⟨rfl,rfl⟩:=h1
 have he:∀ e∈es.toList,∃ s,e.key = .string s∧s∈l:=by
  intro e he
  have:=h3 e he
  cases hke:e.key with
  |string s=>
   rw [hke]at this
   simp only [setM]at this
   split at this
   ·exact ⟨s,rfl,by assumption⟩
   ·simp at this
  |_=>rw [hke]at this;simp [setM]at this
 refine ⟨?_,fun e q=>by obtain ⟨s,a,-⟩:=he e q;exact ⟨s,a⟩⟩
 have n1:(es.toList.map (·.key)).Nodup:=by
  rw [List.nodup_iff_pairwise_ne,List.pairwise_map]
  exact h5
 have n2:((once l).map Value.string).Nodup:=nodup_map _ (fun a b q=>by injection q) (once_nodup l)
 rw [List.perm_ext_iff_of_nodup n1 n2]
 intro k
 constructor
 ·intro hk
  obtain ⟨e,he1,rfl⟩:=List.mem_map.1 hk
  obtain ⟨s,e1,e2⟩:=he e he1
  rw [e1]
  exact List.mem_map.2 ⟨s,once_mem.2 e2,rfl⟩
 ·intro hk
  obtain ⟨s,hs,rfl⟩:=List.mem_map.1 hk
  obtain ⟨e,he,hk⟩:=h4 (.string s) (.agg #[]) (by simp only [setM];rw [if_pos (once_mem.1 hs)])
  exact List.mem_map.2 ⟨e,he,hk⟩
/-! ### Bytes of bits -/
def bytesU (n:Nat) (P:Nat→Bool):List UInt8:=(bytesP n P).map UInt8.ofNat
theorem bytesU_len (n:Nat) (P:Nat→Bool):(bytesU n P).length=n:=by simp [bytesU,bytesP_len]
theorem bytesU_get {n j:Nat} (P:Nat→Bool) (h:j<n):(bytesU n P)[j]? = some (UInt8.ofNat (byteP P j)):=by
 unfold bytesU
 rw [List.getElem?_map,bytesP_get P h];rfl
theorem bytesU_set {n a:Nat} (P:Nat→Bool) (h:a<8 * n):(bytesU n P).set (a / 8) (UInt8.ofNat (byteP P (a / 8) ||| 2 ^ (a % 8)))=bytesU n (fun i=>P i || i == a):=by
 unfold bytesU
 rw [←bytesP_set P h,List.map_set]
theorem bytesU_none (n:Nat):bytesU n (fun _=>false)=List.replicate n 0:=by
 unfold bytesU
 rw [bytesP_none,List.map_replicate];rfl
theorem bitsB_eq (n:Nat) (P:Nat→Bool):bitsB n P=⟨(bytesU n P).toArray⟩:=bitsB_bytes n P
def bitP (s:Stg) (n:Nat) (l:List ByteArray) (i:Nat):Bool:=l.any fun x=>decide (i∈placesB s x n)
def bitQ (s:Stg) (n:Nat) (l:List ByteArray) (pl:List Nat) (i:Nat):Bool:=bitP s n l i || pl.any (fun x=>i == x)
theorem bitQ_snoc (s:Stg) (n:Nat) (l:List ByteArray) (pl:List Nat) (a:Nat):(fun i=>bitQ s n l pl i || i == a)=bitQ s n l (pl ++ [a]):=by
 funext i
 simp [bitQ,Bool.or_assoc]
theorem bitQ_all (s:Stg) (n:Nat) (l:List ByteArray) (p:ByteArray):bitQ s n l (placesB s p n)=bitP s n (l ++ [p]):=by
 funext i
 simp only [bitQ,bitP,List.any_append,List.any_cons,List.any_nil,Bool.or_false]
 congr 1
 rw [Bool.eq_iff_iff,List.any_eq_true,decide_eq_true_eq]
 constructor
 ·rintro ⟨x, hx, e⟩
  rw [beq_iff_eq]at e
  exact e ▸ hx
 ·exact fun h=>⟨i,h,by simp⟩
theorem bitP_none (s:Stg) (n:Nat):bitP s n []=fun _=>false:=rfl
theorem bitQ_none (s:Stg) (n:Nat) (l:List ByteArray):bitQ s n l []=bitP s n l:=by funext i;simp [bitQ]
theorem bitP_perm {s:Stg} {n:Nat} {l m:List ByteArray} (h:l.Perm m):bitP s n l=bitP s n m:=by
 funext i
 unfold bitP
 rw [Bool.eq_iff_iff,List.any_eq_true,List.any_eq_true]
 exact ⟨fun ⟨x,hx,e⟩=>⟨x,h.mem_iff.1 hx,e⟩,fun ⟨x,hx,e⟩=>⟨x,h.mem_iff.2 hx,e⟩⟩
theorem placesB_lt {s:Stg} {p:ByteArray} {n x:Nat} (h:x∈placesB s p n):x<n:=by
 unfold placesB at h
 split at h
 ·rename_i q
  obtain ⟨i,-,rfl⟩:=List.mem_map.1 h
  exact Nat.mod_lt _ (by omega)
 ·simp at h
theorem placesB_len (s:Stg) (p:ByteArray) (n:Nat):(placesB s p n).length≤16:=by
 unfold placesB
 split
 ·rename_i q;rw [List.length_map,List.length_range];have:=q.1.2.1;omega
 ·simp
theorem makeF_large {s:Stg} {l:List ByteArray} (h:s.m.toNat<(once l).length):makeF s l=⟨2,⟨#[]⟩⟩:=by unfold makeF;simp only [];rw [if_pos h]
theorem makeF_small {s:Stg} {l:List ByteArray} (h:¬ s.m.toNat<(once l).length):makeF s l=⟨1,⟨(bytesU (manyB s (once l).length) (bitP s (8 * manyB s (once l).length) (once l))).toArray⟩⟩:=by
 unfold makeF;simp only [];rw [if_neg h,bitsB_eq];rfl
end Go.Proofs.YtofcogekgcgjhaaGreatDoor
namespace Go.Proofs.YtofcogekgcgjhaaGreatDoor
open Go.RowKit Go.Mine Go.Mine.Ac
def NmAt (w:World) (a:Option Addr) (cap:Nat) (l:List ByteArray):Prop:=
 l.length≤1000000000∧(0<l.length→∃ b off,a=some ⟨b,off,none⟩∧b<w.heap.size∧∀ (i:Nat) x,l[i]? = some x→w.cell? ⟨b,off+i,none⟩=some (.string x))
theorem sl_names {w:World} {S:Nat→Prop} {v:Value} {l:List ByteArray} (h:Sl w S 9 1 v (l.map Value.string) l.length) (hl:l.length≤1000000000):∃ a cap,v = .slice a l.length cap∧NmAt w a cap l:=by
 obtain ⟨a,cap,rfl,-,-⟩:=h.value
 refine ⟨a,cap,rfl,hl,fun hn=>?_⟩
 obtain ⟨g,off,c2,hv,h1,h2,h3,h4,h5,h6⟩:=h.opens hn
 injection hv with e1 e2 e3
 refine ⟨g,off,e1,h6,fun i x hx=>?_⟩
 have hi:i<l.length:=(List.getElem?_eq_some_iff.1 hx).1
 rw [h4 i (by omega),List.getElem?_map,hx]
 rfl
def SnRel (w:World) (l1 l2:List ByteArray) (g:Nat) (iv:Value) (wr:World):Prop:=
 ∃ i:Nat,iv = .int .i64 (i:Nat)∧i+g=l1.length∧l1.take i=l2.take i∧Turned (fun _=>False) w wr
set_option maxHeartbeats 2000000 in
theorem samenames_any {w:World} {S1 S2:Nat→Prop} {a1 a2:Option Addr} {c1 c2:Nat} {l1 l2:List ByteArray} (h1:Sl w S1 9 1 (.slice a1 l1.length c1) (l1.map Value.string) l1.length) (h2:Sl w S2 9 1 (.slice a2 l2.length c2) (l2.map Value.string) l2.length) (hs:l1.length≤1000000000∧l2.length≤1000000000) :
  Calls Tryz.prog 37 #[.slice a1 l1.length c1,.slice a2 l2.length c2] w fun e w'=>e = .returned (.bool (decide (l1=l2)))∧Turned (fun _=>False) w w':=by
 obtain ⟨r,hr⟩:∃ r,r=decide (l1=l2):=⟨_,rfl⟩
 have HR:Hid (r=decide (l1=l2)):=hr
 rw [←hr]
 by_cases hlen:l1.length=l2.length
 ·have HL : Hid (l1.length = l2.length ∧ l1.length ≤ 1000000000) := ⟨hlen, hs.1⟩
  obtain ⟨n,hn⟩:∃ n,n=l1.length:=⟨_,rfl⟩
  have HN:Hid (n=l1.length):=hn
  rw [←hlen,←hn]
  have d0:((n:Int) == (n:Int))=true:=by simp
  have d0n:((n:Int) != (n:Int))=false:=by simp
  have NM:∀ {S:Nat→Prop} {a:Option Addr} {c:Nat} {l:List ByteArray},Sl w S 9 1 (.slice a l.length c) (l.map Value.string) l.length→l.length≤1000000000→∀ W,Turned (fun _=>False) w W→NmAt W a c l:=fun h hl W t=>by
   obtain ⟨a',c',e,y⟩:=sl_names (h.turned t fun _ _ z=>z) hl
   injection e with e1 e2 e3
   subst e1;subst e3
   exact y
  have H1:Hid (∀ W,Turned (fun _=>False) w W→NmAt W a1 c1 l1):=NM h1 hs.1
  have H2:Hid (∀ W,Turned (fun _=>False) w W→NmAt W a2 c2 l2):=NM h2 hs.2
  clear NM
  have B0:Hid (SnRel w l1 l2 n (.int .i64 0) w):=⟨0,rfl,by omega,by simp,Turned.refl _ _⟩
  clear h1 h2 hlen hr hn hs
  go_enter Tryz.func37,Tryz.ntmps37
  go_wp2
  go_loopg [5] n (fun g v wr=>SnRel w l1 l2 g v wr)
  case atStart=>exact B0.out
  case round=>
   obtain ⟨i,rfl,hig,hle,ht⟩:=hrel
   have TT:Hid (Turned (fun _=>False) w wr):=ht
   have G:Hid (i+gk=l1.length∧l1.take i=l2.take i):=⟨hig,hle⟩
   clear hig hle B0 ht
   by_cases hlt:i<n
   ·have hd1 : decide ((i : Int) < (n : Int)) = true := by simp; omega
    have hd2:decide (i<n)=true:=by simp;omega
    have hi1:i<l1.length:=by have:=HN.out;omega
    have hi2:i<l2.length:=by have:=HL.out;omega
    obtain ⟨b1,o1,rfl,z1,k1⟩:=(H1.out _ TT.out).2 (by omega)
    obtain ⟨b2,o2,rfl,z2,k2⟩:=(H2.out _ TT.out).2 (by omega)
    have x1:=k1 i l1[i] (List.getElem?_eq_getElem hi1)
    have x2:=k2 i l2[i] (List.getElem?_eq_getElem hi2)
    have HI:Hid (l1[i]? = some l1[i]∧l2[i]? = some l2[i]∧i<l1.length∧i<l2.length):=⟨List.getElem?_eq_getElem hi1,List.getElem?_eq_getElem hi2,hi1,hi2⟩
    have HW:Hid (wrap64 ((i:Int)+1)=((i+1:Nat):Int)):=hidS (by have:=HL.out;simp [wrap64];omega)
    generalize l1[i]=y1 at *
    generalize l2[i]=y2 at *
    clear k1 k2 hi1 hi2
    by_cases he:y1=y2
    ·subst he
     have HE:Hid (l1.take (i+1)=l2.take (i+1)):=hidS (by rw [List.take_add_one,List.take_add_one,G.out.2,HI.out.1,HI.out.2.1])
     go_wp2
     go_region
     go_wp2
     go_roundg (gk - 1)
     case measure=>have:=G.out;have:=HI.out;omega
     case rel=>exact ⟨i+1,by rw [HW.out],by have:=G.out;have:=HI.out;omega,HE.out,TT.out.draw⟩
    ·have HE : Hid (r = false) := hidS (by rw [HR.out]; refine decide_eq_false fun q => he ?_; have := HI.out; rw [q] at this; exact Option.some.inj (this.1.symm.trans this.2.1))
     have e1:=ba_ne2 _ _ he
     go_wp2
     go_region
     go_wp2
     go_ret
     exact ⟨by rw [HE.out];rfl,TT.out.draw⟩
   ·have hd1 : decide ((i : Int) < (n : Int)) = false := by simp; omega
    have hd2:decide (i<n)=false:=by simp;omega
    have HE:Hid (r=true):=hidS (by
     rw [HR.out]
     refine decide_eq_true ?_
     have q1:=G.out
     have q2:=HL.out
     have q3:=HN.out
     have:=q1.2
     rw [List.take_of_length_le (by omega),List.take_of_length_le (by omega)]at this
     exact this)
    go_wp2
    go_ret
    exact ⟨by rw [HE.out];rfl,TT.out⟩
 ·have d0 : ((l1.length : Int) == (l2.length : Int)) = false := by simp; omega
  have d1:((l1.length:Int) != (l2.length:Int))=true:=by simp;omega
  have HE:Hid (r=false):=hidS (by rw [HR.out];exact decide_eq_false fun q=>hlen (by rw [q]))
  generalize l1.length=n1 at *
  generalize l2.length=n2 at *
  clear h1 h2 hr HR hlen hs
  go_enter Tryz.func37,Tryz.ntmps37
  go_wp2
  go_ret
  exact ⟨by rw [HE.out];rfl,Turned.refl _ _⟩
end Go.Proofs.YtofcogekgcgjhaaGreatDoor
