/- Packed. -/
import Derived.Test.YtofcogekgcgjhaaGreatDoorZzbg
import Derived.Test.YtofcogekgcgjhaaGreatDoorZzak
set_option linter.unusedVariables false
set_option linter.unusedSimpArgs false
set_option maxRecDepth 100000
namespace Go.Proofs.YtofcogekgcgjhaaGreatDoor
open Go.RowKit Go.Mine Go.Mine.Ac
/-! ### What is right of a store -/
structure StGood (s:St):Prop where
 trees:s.trees.length≤65536
 commits:s.commits.length≤65536
 tree:∀ t∈s.trees,TreeOk t∧∀ x∈t,x.2<4294967296
 commit:∀ (n:Nat) (c:Cm),s.commits[n]? = some c→c.par.length≤16∧goodP n c.par∧0≤c.tree∧c.tree<s.trees.length
theorem noSt_good:StGood noSt:=⟨by simp [noSt],by simp [noSt],by simp [noSt],by simp [noSt]⟩
theorem StGood.dead {s:St} (h:StGood s) (b:Bool):StGood { s with dead:=b }:=⟨h.trees,h.commits,h.tree,h.commit⟩
theorem checkP_in:∀ (l seen:List Int),checkP seen l=0→∀ (i:Nat) (p:Int),l[i]? = some p→inR p∧p ∉ seen∧p ∉ l.take i
 | [],_,_,i,p,hp=>by simp at hp
 |q :: l,seen,h,i,p,hp=>by
  rw [checkP]at h
  split at h
  ·simp at h
  rename_i h1
  split at h
  ·simp at h
  rename_i h2
  cases i with
  |zero=>
   simp only [List.getElem?_cons_zero,Option.some.injEq]at hp
   subst hp
   exact ⟨Classical.not_not.1 h1,h2,by simp⟩
  |succ i=>
   obtain ⟨a,b,c⟩:=checkP_in l _ h i p (by simpa using hp)
   rw [List.mem_append,List.mem_singleton,not_or]at b
   refine ⟨a,b.1,?_⟩
   rw [List.take_succ_cons,List.mem_cons,not_or]
   exact ⟨b.2,c⟩
theorem checkC_good {s:St} {c:Cm} (h:checkC c=0) (hk:knownS s c=true):c.par.length≤16∧goodP s.commits.length c.par∧0≤c.tree∧c.tree<s.trees.length:=by
 unfold checkC at h
 split at h
 ·simp at h
 rename_i h1
 split at h
 ·simp at h
 rename_i h2
 unfold knownS at hk
 rw [Bool.and_eq_true,decide_eq_true_eq,List.all_eq_true]at hk
 have h3:inR c.tree:=Classical.not_not.1 h2
 refine ⟨by omega,fun i p hp=>?_,h3.1,hk.1⟩
 obtain ⟨a,-,b⟩:=checkP_in c.par [] h i p hp
 have:=hk.2 p (List.mem_of_getElem? hp)
 exact ⟨a.1,by simpa using this,b⟩
theorem StGood.addTree {s:St} {d:Dk} {t:List Ent} (h:StGood s) (ht:∀ x∈t,x.2<4294967296):StGood (addTree d s t).2.1:=by
 by_cases hd:s.dead=true
 ·rw [addTree_dead hd];exact h
 replace hd:s.dead=false:=by simpa using hd
 cases he:encT t with
 |error k=>rw [addTree_err hd he];exact h
 |ok b=>
  by_cases hm:65536≤s.trees.length
  ·rw [addTree_full hd he hm];exact h
  obtain ⟨D1,s1,k,hw⟩:∃ D1 s1 k,writeS d s 1 b=(D1,s1,k):=⟨_,_,_,rfl⟩
  obtain ⟨e1,e2⟩:=writeS_trees d s 1 b
  rw [hw]at e1 e2
  simp only at e1 e2
  by_cases hk:k=0
  ·subst hk
   rw [addTree_good hd he hm hw]
   refine ⟨?_,?_,?_,?_⟩
   ·simp only [List.length_append,e1,List.length_cons,List.length_nil];omega
   ·simp only [e2];exact h.commits
   ·intro y hy
    simp only [e1]at hy
    rcases List.mem_append.1 hy with q|q
    ·exact h.tree y q
    ·rw [List.mem_singleton] at q
     subst q
     exact ⟨(encT_ok he).1,ht⟩
   ·intro n c hc
    simp only [e2]at hc
    obtain ⟨a1,a2,a3,a4⟩:=h.commit n c hc
    refine ⟨a1,a2,a3,?_⟩
    simp only [List.length_append,e1,List.length_cons,List.length_nil];omega
  ·rw [addTree_bad hd he hm hw hk]
   exact ⟨by simp only [e1];exact h.trees,by simp only [e2];exact h.commits,by simp only [e1];exact h.tree,by simp only [e1,e2];exact h.commit⟩
theorem StGood.addCommit {s:St} {d:Dk} {c:Cm} (h:StGood s):StGood (addCommit d s c).2.1:=by
 by_cases hd:s.dead=true
 ·rw [addCommit_dead hd];exact h
 replace hd:s.dead=false:=by simpa using hd
 cases he:encC c with
 |error k=>rw [addCommit_err hd he];exact h
 |ok b=>
  by_cases hk:knownS s c=false
  ·rw [addCommit_unk hd he hk];exact h
  replace hk:knownS s c=true:=by simpa using hk
  by_cases hm:65536≤s.commits.length
  ·rw [addCommit_full hd he hk hm];exact h
  obtain ⟨D1,s1,k,hw⟩:∃ D1 s1 k,writeS d s 2 b=(D1,s1,k):=⟨_,_,_,rfl⟩
  obtain ⟨e1,e2⟩:=writeS_trees d s 2 b
  rw [hw]at e1 e2
  simp only at e1 e2
  by_cases h0:k=0
  ·subst h0
   rw [addCommit_good hd he hk hm hw]
   refine ⟨by simp only [e1];exact h.trees,?_,by simp only [e1];exact h.tree,?_⟩
   ·simp only [List.length_append,e2,List.length_cons,List.length_nil];omega
   ·intro n x hx
    simp only [e1,e2]at hx ⊢
    rw [List.getElem?_append]at hx
    split at hx
    ·exact h.commit n x hx
    ·rename_i q
     have h1:n=s.commits.length:=by
      have:=(List.getElem?_eq_some_iff.1 hx).1
      simp only [List.length_cons,List.length_nil]at this
      omega
     subst h1
     simp only [Nat.sub_self,List.getElem?_cons_zero,Option.some.injEq]at hx
     subst hx
     exact checkC_good (encC_ok he).1 hk
  ·rw [addCommit_bad hd he hk hm hw h0]
   exact ⟨by simp only [e1];exact h.trees,by simp only [e2];exact h.commits,by simp only [e1];exact h.tree,by simp only [e1,e2];exact h.commit⟩
/-! ### Rows -/
def chainT:ByteArray:=⟨#[99,104,97,105,110,46,116,109,112]⟩
def graphT:ByteArray:=⟨#[103,114,97,112,104,46,116,109,112]⟩
def stgOf (g:Gr):Stg:=⟨g.h,g.p,g.m,g.seed⟩
def fltOf (r:Rw):Flt:=⟨r.state,r.bits⟩
def oldS (s:St) (c:Cm):List Ent:=match c.par with | []=>[]|p :: _=>contentS s p
def genOf (all:List Int) (c:Cm):Int:=nextG (c.par.map fun p=>all.getD p.toNat 0)
def rowOf (s:St) (g:Stg) (n:Nat) (gen:Int):Rw:=⟨(commitS s n).1.par,(commitS s n).1.tree,gen,(ofF g (oldS s (commitS s n).1) (contentS s n)).state,(ofF g (oldS s (commitS s n).1) (contentS s n)).bits⟩
def rowsX (s:St) (g:Stg):Nat→List Int→List Rw
 |0,_=>[]
 |k+1,known=>rowOf s g known.length (genOf known (commitS s known.length).1) :: rowsX s g k (known ++ [genOf known (commitS s known.length).1])
def gensX (x:Ix):List Int:=x.graphs.flatMap fun g=>g.rows.map (·.gen)
theorem rowsX_len (s:St) (g:Stg):∀ (k:Nat) (known:List Int),(rowsX s g k known).length=k
 |0,_=>rfl
 |k+1,known=>by rw [rowsX,List.length_cons,rowsX_len s g k]
theorem manyB_le {s:Stg} (hs:goodStg s) {k:Nat} (hk:k≤s.m.toNat):1≤manyB s k∧manyB s k≤4096:=by
 obtain ⟨h1,h2,h3,h4,h5,h6⟩:=hs
 unfold manyB
 have e1:s.p.toNat≤64:=by omega
 have e2:k≤512:=by omega
 have e3:k * s.p.toNat≤512 * 64:=Nat.mul_le_mul e2 e1
 omega
theorem goodF_large:goodF 2 ⟨#[]⟩=true:=by decide
theorem goodF_small {b:ByteArray} (h:1≤b.size∧b.size≤4096):goodF 1 b=true:=by
 unfold goodF
 rw [if_neg (by decide),if_pos rfl]
 simpa using h
theorem makeF_good {s:Stg} (hs:goodStg s) (l:List ByteArray):goodF (makeF s l).state (makeF s l).bits=true:=by
 by_cases h:s.m.toNat<(once l).length
 ·rw [makeF_large h];exact goodF_large
 ·rw [makeF_small h]
  refine goodF_small ?_
  have h1:=manyB_le hs (k:=(once l).length) (by omega)
  have h2:∀ (u:List UInt8),(⟨u.toArray⟩:ByteArray).size=u.length:=fun u=>by simp [ByteArray.size]
  rw [h2,bytesU_len]
  exact h1
theorem makeF_state (s:Stg) (l:List ByteArray):(makeF s l).state=1∨(makeF s l).state=2:=by
 by_cases h:s.m.toNat<(once l).length
 ·rw [makeF_large h];exact .inr rfl
 ·rw [makeF_small h];exact .inl rfl
theorem goodF_size {n:Int} {b:ByteArray} (h:goodF n b=true):b.size≤4096:=by
 unfold goodF at h
 split at h
 ·have:=of_decide_eq_true h;omega
 ·split at h
  ·have:=of_decide_eq_true h;omega
  ·simp at h
def GenOk (l:List Int):Prop:=∀ x∈l,1≤x∧x≤1023
theorem counted_low {n:Int} (h:n≤1023):counted n≤1023:=by unfold counted;rw [if_neg (by omega)];omega
theorem nextG_low {l:List Int} (h:∀ x∈l,x≤1023):1≤nextG l∧nextG l≤1023:=by
 have h1:∀ (l:List Int) (a:Int),(∀ x∈l,x≤1023)→0≤a→a≤1023→0≤l.foldl (fun h p=>max h (counted p)) a∧l.foldl (fun h p=>max h (counted p)) a≤1023:=by
  intro l
  induction l with
  |nil=>intro a _ h1 h2;exact ⟨h1,h2⟩
  |cons y l ih=>
   intro a hl h1 h2
   rw [List.foldl_cons]
   have:=counted_low (hl y (List.mem_cons_self ..))
   exact ih _ (fun x hx=>hl x (List.mem_cons_of_mem _ hx)) (by omega) (by omega)
 have:=h1 l 0 h (by omega) (by omega)
 unfold nextG
 simp only []
 split <;> omega
theorem genOf_ok {all:List Int} (h:GenOk all) (c:Cm):1≤genOf all c∧genOf all c≤1023:=by
 refine nextG_low fun x hx=>?_
 obtain ⟨p,-,rfl⟩:=List.mem_map.1 hx
 rw [List.getD_eq_getElem?_getD]
 cases hp:all[p.toNat]? with
 |none=>simp
 |some y=>exact (h y (List.mem_of_getElem? hp)).2
theorem commitS_get {s:St} {n:Nat} (h:n<s.commits.length):∃ c,s.commits[n]? = some c∧(commitS s n).1=c:=by
 refine ⟨_,List.getElem?_eq_getElem h,?_⟩
 rw [commitS_some (List.getElem?_eq_getElem h)]
theorem rowOf_good {s:St} (hs:StGood s) {g:Stg} (hg:goodStg g) {n:Nat} (hn:n<s.commits.length) {gen:Int} (h:1≤gen∧gen≤1023):goodR (rowOf s g n gen) n:=by
 obtain ⟨c,h1,h2⟩:=commitS_get hn
 obtain ⟨a1,a2,a3,a4⟩:=hs.commit n c h1
 have:=hs.trees
 unfold rowOf
 rw [h2]
 exact ⟨a1,a3,by simp only;omega,h.1,h.2,a2,makeF_good hg _⟩
theorem rowsX_good {s:St} (hs:StGood s) {g:Stg} (hg:goodStg g):∀ (k:Nat) (known:List Int),GenOk known→known.length+k≤s.commits.length→∀ (i:Nat) (r:Rw),(rowsX s g k known)[i]? = some r→goodR r ((known.length+i:Nat):Int)
 |0,known,_,_,i,r,hr=>by simp [rowsX]at hr
 |k+1,known,hk,hl,i,r,hr=>by
  rw [rowsX]at hr
  have hge:=genOf_ok hk (commitS s known.length).1
  cases i with
  |zero=>
   simp only [List.getElem?_cons_zero,Option.some.injEq]at hr
   subst hr
   exact rowOf_good hs hg (by omega) hge
  |succ i=>
   have:=rowsX_good hs hg k (known ++ [genOf known (commitS s known.length).1]) (fun x hx=>by
    rcases List.mem_append.1 hx with q|q
    ·exact hk x q
    ·rw [List.mem_singleton]at q;subst q;exact hge) (by simp;omega) i r (by simpa using hr)
   have e:((known ++ [genOf known (commitS s known.length).1]).length+i:Nat)=known.length+(i+1):=by simp;omega
   rw [e]at this
   exact this
theorem gensX_ok {x:Ix} (h:IxOk x):GenOk (gensX x):=fun z hz=>by
 obtain ⟨g,hg,hz⟩:=List.mem_flatMap.1 hz
 obtain ⟨r,hr,rfl⟩:=List.mem_map.1 hz
 obtain ⟨i,hi⟩:=List.getElem?_of_mem hg
 obtain ⟨j,hj⟩:=List.getElem?_of_mem hr
 obtain ⟨_,_,_,h4,h5,_⟩:=(h.graph i g hi).1.2.2 j r hj
 exact ⟨h4,h5⟩
theorem tot_take_succ (l:List Ch.Ln) (i:Nat) (y:Ch.Ln) (h:l[i]? = some y):Ch.totLn (l.take (i+1))=Ch.totLn (l.take i)+y.2.1:=by
 rw [List.take_add_one,h,Ch.totLn_append]
 simp [Ch.totLn]
theorem gensX_take {x:Ix} (h:IxOk x):∀ i,i≤x.links.length→(((x.graphs.take i).flatMap fun g=>g.rows.map (·.gen)).length:Int)=Ch.totLn (x.links.take i)
 |0,_=>by simp [Ch.totLn]
 |i+1,hi=>by
  have hi' : i<x.graphs.length:=by rw [h.both];omega
  have e:=List.getElem?_eq_getElem hi'
  obtain ⟨-,-,l,hl,hc⟩:=h.graph i _ e
  have ih:=gensX_take h i (by omega)
  rw [tot_take_succ _ _ _ hl,List.take_add_one,e,List.flatMap_append,List.length_append]
  push_cast
  rw [ih,hc]
  simp
theorem gensX_len {x:Ix} (h:IxOk x):((gensX x).length:Int)=x.len:=by
 have:=gensX_take h x.links.length (Nat.le_refl _)
 rw [List.take_of_length_le (by rw [h.both];exact Nat.le_refl _),List.take_of_length_le (Nat.le_refl _)]at this
 exact this
/-! ### How many changes and files a disk has -/
def Few (d:Dk) (n:Nat):Prop:=d.pend.length≤n∧d.files.length≤n
theorem Few.mono {d:Dk} {n m:Nat} (h:Few d n) (hm:n≤m):Few d m:=⟨Nat.le_trans h.1 hm,Nat.le_trans h.2 hm⟩
theorem Few.then {d:Dk} {n m:Nat} {f:Dk→Dk} (h:Few d n) (hm:n≤m) (hf:∀ k,Few { d with falls:=k } n→Few (f { d with falls:=k }) m):Few (d.then f).1 m:=by
 by_cases h1:d.falls=1
 ·rw [Dk.then_dies h1];exact h.mono hm
 ·rw [Dk.then_goes h1];exact hf _ h
theorem Few.create {d:Dk} {n:Nat} (h:Few d n) (name:ByteArray):Few (d.create name).1 (n+1):=by
 unfold Dk.create
 split
 ·exact h.mono (Nat.le_succ _)
 split
 ·exact h.mono (Nat.le_succ _)
 split
 ·exact h.mono (Nat.le_succ _)
 refine h.then (Nat.le_succ _) fun k q=>?_
 have h1:=h.1
 have h2:=h.2
 constructor
 ·simp only [Dk.change,List.length_append,List.length_cons,List.length_nil];omega
 ·simp only [Dk.change,List.length_append,List.length_cons,List.length_nil];omega
theorem Few.append {d:Dk} {n:Nat} (h:Few d n) (name text:ByteArray):Few (d.append name text).1 n:=by
 unfold Dk.append
 split
 ·exact h
 split
 ·exact h
 exact h.then (Nat.le_refl _) fun k q=>⟨q.1,by simp only [Dk.setF,List.length_set];exact q.2⟩
theorem Few.sync {d:Dk} {n:Nat} (h:Few d n) (name:ByteArray):Few (d.sync name).1 n:=by
 unfold Dk.sync
 split
 ·exact h
 exact h.then (Nat.le_refl _) fun k q=>⟨q.1,by simp only [Dk.setF,List.length_set];exact q.2⟩
theorem Few.syncNames {d:Dk} {n:Nat} (h:Few d n):Few d.syncNames.1 n:=by
 unfold Dk.syncNames
 split
 ·exact h
 exact h.then (Nat.le_refl _) fun k q=>⟨Nat.zero_le _,q.2⟩
theorem Few.rename {d:Dk} {n:Nat} (h:Few d n) (a b:ByteArray):Few (d.rename a b).1 (n+1):=by
 unfold Dk.rename
 split
 ·exact h.mono (Nat.le_succ _)
 split
 ·exact h.mono (Nat.le_succ _)
 refine h.then (Nat.le_succ _) fun k q=>?_
 have h1:=h.1
 have h2:=h.2
 split
 ·exact q.mono (Nat.le_succ _)
 ·constructor
  ·simp only [Dk.change,List.length_append,List.length_cons,List.length_nil];omega
  ·simp only [Dk.change];omega
theorem Few.remove {d:Dk} {n:Nat} (h:Few d n) (a:ByteArray):Few (d.remove a).1 (n+1):=by
 unfold Dk.remove
 split
 ·exact h.mono (Nat.le_succ _)
 refine h.then (Nat.le_succ _) fun k q=>?_
 have h1:=h.1
 have h2:=h.2
 constructor
 ·simp only [Dk.change,List.length_append,List.length_cons,List.length_nil];omega
 ·simp only [Dk.change];omega
theorem Few.writeS {d:Dk} {n:Nat} (h:Few d n) (s:St) (k:Nat) (b:ByteArray):Few (writeS d s k b).1 n:=by
 obtain ⟨D1,k1,h1⟩:∃ D1 k1,d.append logB (toldF ⟨k,b⟩)=(D1,k1):=⟨_,_,rfl⟩
 have f1:=h.append logB (toldF ⟨k,b⟩)
 rw [h1]at f1
 by_cases q:k1=0
 ·subst q
  rw [writeS_goes h1 rfl]
  exact f1.sync _
 ·rw [writeS_dies h1 q]
  exact f1
theorem writeS_ok {d:Dk} (h:d.Ok) (s:St) (k:Nat) (b:ByteArray):(writeS d s k b).1.Ok:=by
 obtain ⟨D1,k1,h1⟩:∃ D1 k1,d.append logB (toldF ⟨k,b⟩)=(D1,k1):=⟨_,_,rfl⟩
 have f1:=h.appendOk logB (toldF ⟨k,b⟩)
 rw [h1]at f1
 by_cases q:k1=0
 ·subst q
  rw [writeS_goes h1 rfl]
  exact f1.syncOk _
 ·rw [writeS_dies h1 q]
  exact f1
theorem addTree_disk {P:Dk→Prop} {d:Dk} (s:St) (t:List Ent) (h:P d) (hw:∀ b,P (writeS d s 1 b).1):P (addTree d s t).1:=by
 by_cases hd:s.dead=true
 ·rw [addTree_dead hd];exact h
 replace hd:s.dead=false:=by simpa using hd
 cases he:encT t with
 |error k=>rw [addTree_err hd he];exact h
 |ok b=>
  by_cases hm:65536≤s.trees.length
  ·rw [addTree_full hd he hm];exact h
  have:=hw b
  obtain ⟨D1,s1,k,hw⟩:∃ D1 s1 k,Ac.writeS d s 1 b=(D1,s1,k):=⟨_,_,_,rfl⟩
  rw [hw]at this
  by_cases hk:k=0
  ·subst hk
   rw [addTree_good hd he hm hw];exact this
  ·rw [addTree_bad hd he hm hw hk];exact this
theorem addCommit_disk {P:Dk→Prop} {d:Dk} (s:St) (c:Cm) (h:P d) (hw:∀ b,P (writeS d s 2 b).1):P (addCommit d s c).1:=by
 by_cases hd:s.dead=true
 ·rw [addCommit_dead hd];exact h
 replace hd:s.dead=false:=by simpa using hd
 cases he:encC c with
 |error k=>rw [addCommit_err hd he];exact h
 |ok b=>
  by_cases hk:knownS s c=false
  ·rw [addCommit_unk hd he hk];exact h
  replace hk:knownS s c=true:=by simpa using hk
  by_cases hm:65536≤s.commits.length
  ·rw [addCommit_full hd he hk hm];exact h
  have:=hw b
  obtain ⟨D1,s1,k,hw⟩:∃ D1 s1 k,Ac.writeS d s 2 b=(D1,s1,k):=⟨_,_,_,rfl⟩
  rw [hw]at this
  by_cases h0:k=0
  ·subst h0
   rw [addCommit_good hd he hk hm hw];exact this
  ·rw [addCommit_bad hd he hk hm hw h0];exact this
/-! ### What graph files and chains are told -/
noncomputable def encE (g:Gr):ByteArray×Nat:=
 if grErr g=0 then if 4194304<(tellT g.rows).B.length then (emp,5) else if buildErr (chunksG g)=0 then (built (chunksG g),0) else (emp,buildErr (chunksG g)) else (emp,1)
theorem encG_eq (g:Gr):encG g = .tuple #[.string (encE g).1,.int .i64 ((encE g).2:Nat)]:=by
 unfold encG encE buildV
 split
 ·split
  ·rfl
  ·split <;> rfl
 ·rfl
theorem encE_ok {g:Gr} (h:(encE g).2=0):goodG g:=by
 unfold encE at h
 split at h
 ·rename_i q
  unfold grErr at q
  split at q
  ·assumption
  ·simp at q
 ·simp at h
def encL (l:List Ch.Ln):ByteArray×Nat:=if Ch.lnErr l=0 then (Ch.toldLn l,0) else (emp,Ch.lnErr l)
theorem encV_eq (l:List Ch.Ln):Ch.encV l = .tuple #[.string (encL l).1,.int .i64 ((encL l).2:Nat)]:=by
 unfold Ch.encV encL
 split <;> rfl
theorem encL_ok {l:List Ch.Ln} (h:(encL l).2=0):Ch.lnErr l=0:=by
 unfold encL at h
 split at h
 ·assumption
 ·exact h
/-! ### Files -/
def writeX (d:Dk) (tmp text name:ByteArray):Dk×Nat:=
 match d.create tmp with
 |(d1,0)=>match d1.append tmp text with
  |(d2,0)=>match d2.sync tmp with
   |(d3,0)=>d3.rename tmp name
   |r=>r
  |r=>r
 |r=>r
theorem writeX_keeps {P:Nat→Dk→Prop} (hm:∀ n d,P n d→P (n+1) d) (h1:∀ n d s,P n d→P (n+1) (d.create s).1) (h2:∀ n d s t,P n d→P n (d.append s t).1) (h3:∀ n d s,P n d→P n (d.sync s).1) (h4:∀ n d s t,P n d→P (n+1) (d.rename s t).1)
  {n:Nat} {d:Dk} (h:P n d) (tmp text name:ByteArray):P (n+2) (writeX d tmp text name).1:=by
 unfold writeX
 have a1:=h1 n d tmp h
 split
 ·rename_i d1 e1
  rw [e1]at a1
  have a2:=h2 _ d1 tmp text a1
  split
  ·rename_i d2 e2
   rw [e2]at a2
   have a3:=h3 _ d2 tmp a2
   split
   ·rename_i d3 e3
    rw [e3]at a3
    exact h4 _ d3 tmp name a3
   ·exact hm _ _ a3
  ·exact hm _ _ a2
 ·exact hm _ _ a1
def sweepX (links:List Ch.Ln):List ByteArray→Dk→Dk
 | [],d=>d
 |name :: l,d=>sweepX links l (if (Ch.progN name).2=true∧Ch.hasLn links (Ch.progN name).1=false then (d.remove name).1 else d)
theorem sweepX_keeps {P:Nat→Dk→Prop} (hm:∀ n d,P n d→P (n+1) d) (h1:∀ n d s,P n d→P (n+1) (d.remove s).1) (links:List Ch.Ln):∀ (l:List ByteArray) (n:Nat) (d:Dk),P n d→P (n+l.length) (sweepX links l d)
 | [],n,d,h=>h
 |name :: l,n,d,h=>by
  rw [sweepX,List.length_cons]
  have e:n+(l.length+1)=(n+1)+l.length:=by omega
  rw [e]
  refine sweepX_keeps hm h1 links l (n+1) _ ?_
  split
  ·exact h1 n d name h
  ·exact hm n d h
def layTail (d:Dk) (n:Int) (text list:ByteArray):Dk×Nat:=
 match writeX d graphT text (Ch.nameS n) with
 |(d1,0)=>match writeX d1 chainT list chainB with
  |(d2,0)=>d2.syncNames
  |r=>r
 |r=>r
theorem layTail_keeps {P:Nat→Dk→Prop} (hm:∀ n d,P n d→P (n+1) d) (h1:∀ n d s,P n d→P (n+1) (d.create s).1) (h2:∀ n d s t,P n d→P n (d.append s t).1) (h3:∀ n d s,P n d→P n (d.sync s).1) (h4:∀ n d s t,P n d→P (n+1) (d.rename s t).1) (h5:∀ n d,P n d→P n d.syncNames.1)
  {n:Nat} {d:Dk} (h:P n d) (k:Int) (text list:ByteArray):P (n+4) (layTail d k text list).1:=by
 unfold layTail
 have a1:=writeX_keeps hm h1 h2 h3 h4 h graphT text (Ch.nameS k)
 split
 ·rename_i d1 e1
  rw [e1]at a1
  have a2:=writeX_keeps hm h1 h2 h3 h4 a1 chainT list chainB
  split
  ·rename_i d2 e2
   rw [e2]at a2
   exact h5 _ _ a2
  ·exact a2
 ·exact hm _ _ (hm _ _ a1)
def failX (d:Dk) (n:Int):Dk:=(((d.remove graphT).1.remove chainT).1.remove (Ch.nameS n)).1
noncomputable def linkX (x:Ix) (links:List Ch.Ln) (g:Gr):List Ch.Ln:=links ++ [(Ch.nxt x.links,(g.rows.length:Int),Crc.sum (nums (encE g).1))]
noncomputable def layX (d:Dk) (x:Ix) (links:List Ch.Ln) (graphs:List Gr) (g:Gr):Dk×Ix×Nat:=
 if (encE g).2≠0 then (d,x,(encE g).2)
 else if (encL (linkX x links g)).2≠0 then (d,x,(encL (linkX x links g)).2)
 else match layTail d (Ch.nxt x.links) (encE g).1 (encL (linkX x links g)).1 with
  |(d1,0)=>(sweepX (linkX x links g) d1.names d1,⟨linkX x links g,graphs ++ [g]⟩,0)
  |(d1,e)=>(failX d1 (Ch.nxt x.links),x,e)
def newG (s:St) (g:Stg) (base:Int) (known:List Int):Gr:=⟨base,g.h,g.p,g.m,g.seed,rowsX s g (s.commits.length - known.length) known⟩
noncomputable def compactX (d:Dk) (x:Ix) (s:St) (g:Stg):Dk×Ix×Nat:=
 if readyE x s g≠0 then (d,x,readyE x s g)
 else if s.commits.length=0 then (d,x,0)
 else layX d x [] [] (newG s g 0 [])
noncomputable def updateX (d:Dk) (x:Ix) (s:St) (g:Stg):Dk×Ix×Nat:=
 if readyE x s g≠0 then (d,x,readyE x s g)
 else if (s.commits.length:Int)=x.len then (d,x,0)
 else if 8≤x.links.length then compactX d x s g
 else layX d x x.links x.graphs (newG s g x.len (gensX x))
/-! ### What stays -/
theorem insN_len (s:ByteArray):∀ l,(insN s l).length=l.length+1
 | []=>rfl
 |x :: l=>by
  rw [insN]
  split
  ·rfl
  ·rw [List.length_cons,insN_len s l,List.length_cons]
theorem sortN_len (l:List ByteArray):(sortN l).length=l.length:=by
 induction l with
 |nil=>rfl
 |cons x l ih=>
  have:sortN (x :: l)=insN x (sortN l):=rfl
  rw [this,insN_len,ih,List.length_cons]
theorem names_len {d:Dk} (h:d.Ok):d.names.length≤64:=by
 unfold Dk.names
 split
 ·simp
 ·rw [sortN_len,List.length_map];exact h.seenOk.many
theorem failX_keeps {P:Nat→Dk→Prop} (h1:∀ n d s,P n d→P (n+1) (d.remove s).1) {n:Nat} {d:Dk} (h:P n d) (k:Int):P (n+3) (failX d k):=h1 _ _ _ (h1 _ _ _ (h1 _ _ _ h))
theorem layX_keeps {P:Nat→Dk→Prop} (hm:∀ n d,P n d→P (n+1) d) (h1:∀ n d s,P n d→P (n+1) (d.create s).1) (h2:∀ n d s t,P n d→P n (d.append s t).1) (h3:∀ n d s,P n d→P n (d.sync s).1) (h4:∀ n d s t,P n d→P (n+1) (d.rename s t).1) (h5:∀ n d,P n d→P n d.syncNames.1) (h6:∀ n d s,P n d→P (n+1) (d.remove s).1)
  (h7:∀ n d,P n d→d.names.length≤64) {n:Nat} {d:Dk} (h:P n d) (x:Ix) (links:List Ch.Ln) (graphs:List Gr) (g:Gr):P (n+68) (layX d x links graphs g).1:=by
 have up:∀ k n d,P n d→P (n+k) d:=by
  intro k
  induction k with
  |zero=>intro n d h;exact h
  |succ k ih=>intro n d h;exact hm _ _ (ih n d h)
 unfold layX
 split
 ·exact up 68 _ _ h
 split
 ·exact up 68 _ _ h
 have a1:=layTail_keeps hm h1 h2 h3 h4 h5 h (Ch.nxt x.links) (encE g).1 (encL (linkX x links g)).1
 split
 ·rename_i d1 e1
  rw [e1]at a1
  have a2:=sweepX_keeps hm h6 (linkX x links g) d1.names _ _ a1
  have a3:d1.names.length≤64:=h7 _ _ a1
  have a4:=up (64 - d1.names.length) _ _ a2
  have e:n+4+d1.names.length+(64 - d1.names.length)=n+68:=by omega
  rw [e]at a4
  exact a4
 ·rename_i d1 e1 e2 e3
  rw [e3]at a1
  exact up 61 _ _ (failX_keeps h6 a1 _)
theorem layX_few {n:Nat} {d:Dk} (h:Few d n) (hok:d.Ok) (x:Ix) (links:List Ch.Ln) (graphs:List Gr) (g:Gr):Few (layX d x links graphs g).1 (n+68)∧(layX d x links graphs g).1.Ok:=
 layX_keeps (P:=fun n d=>Few d n∧d.Ok) (fun n d q=>⟨q.1.mono (Nat.le_succ _),q.2⟩) (fun n d s q=>⟨q.1.create s,q.2.createOk s⟩) (fun n d s t q=>⟨q.1.append s t,q.2.appendOk s t⟩) (fun n d s q=>⟨q.1.sync s,q.2.syncOk s⟩)
  (fun n d s t q=>⟨q.1.rename s t,q.2.renameOk s t⟩) (fun n d q=>⟨q.1.syncNames,q.2.syncNamesOk⟩) (fun n d s q=>⟨q.1.remove s,q.2.removeOk s⟩) (fun n d q=>names_len q.2) ⟨h,hok⟩ x links graphs g
theorem updateX_few {n:Nat} {d:Dk} (h:Few d n) (hok:d.Ok) (x:Ix) (s:St) (g:Stg):Few (updateX d x s g).1 (n+68)∧(updateX d x s g).1.Ok∧Few (compactX d x s g).1 (n+68)∧(compactX d x s g).1.Ok:=by
 have hs:Few d (n+68)∧d.Ok:=⟨h.mono (Nat.le_add_right _ _),hok⟩
 have hc:Few (compactX d x s g).1 (n+68)∧(compactX d x s g).1.Ok:=by
  unfold compactX
  split
  ·exact hs
  split
  ·exact hs
  exact layX_few h hok _ _ _ _
 have hu:Few (updateX d x s g).1 (n+68)∧(updateX d x s g).1.Ok:=by
  unfold updateX
  split
  ·exact hs
  split
  ·exact hs
  split
  ·exact hc
  exact layX_few h hok _ _ _ _
 exact ⟨hu.1,hu.2,hc.1,hc.2⟩
theorem layX_ix {d:Dk} {x:Ix} {links:List Ch.Ln} {graphs:List Gr} {g:Gr} (hx:IxOk x) (hl:∀ l∈links,l.2.2<4294967296) (hb:graphs.length=links.length)
  (hg:∀ (i:Nat) (g' : Gr),graphs[i]? = some g'→goodG g'∧g'.base=Ch.totLn (links.take i)∧∃ l,links[i]? = some l∧l.2.1=g'.rows.length) (hbase:g.base=Ch.totLn links):IxOk (layX d x links graphs g).2.1:=by
 unfold layX
 split
 ·exact hx
 rename_i h1
 split
 ·exact hx
 rename_i h2
 have e1:=encE_ok (Classical.not_not.1 h1)
 have e2:=Ch.lnErr_ok _ (encL_ok (Classical.not_not.1 h2))
 split
 ·refine ⟨e2.1, by simp [linkX, hb], fun l hm => ?_, fun i g' hi => ?_⟩
  ·obtain ⟨a, b, c, e⟩ := e2.2.2 l hm
   refine ⟨a,b,c,e,?_⟩
   rcases List.mem_append.1 hm with q|q
   ·exact hl l q
   ·rw [List.mem_singleton] at q
    subst q
    exact crcsum_lt _
  ·simp only at hi ⊢
   unfold linkX
   rw [List.getElem?_append]at hi
   split at hi
   ·rename_i q
    obtain ⟨a,b,l,c,e⟩:=hg i g' hi
    have hi2:i<links.length:=by omega
    exact ⟨a,by rw [b,List.take_append_of_le_length (by omega)],l,by rw [List.getElem?_append_left hi2];exact c,e⟩
   ·rename_i q
    have hie:i=graphs.length:=by
     have:=(List.getElem?_eq_some_iff.1 hi).1
     simp only [List.length_cons,List.length_nil]at this
     omega
    subst hie
    simp only [Nat.sub_self,List.getElem?_cons_zero,Option.some.injEq]at hi
    subst hi
    exact ⟨e1,by rw [hb,List.take_append_of_le_length (Nat.le_refl _),List.take_length];exact hbase,_,by rw [hb,List.getElem?_append_right (Nat.le_refl _),Nat.sub_self];rfl,rfl⟩
 ·exact hx
theorem compactX_ix {d:Dk} {x:Ix} (hx:IxOk x) (s:St) (g:Stg):IxOk (compactX d x s g).2.1:=by
 unfold compactX
 split
 ·exact hx
 split
 ·exact hx
 exact layX_ix hx (fun l h=>by simp at h) rfl (fun i g' h=>by simp at h) rfl
theorem updateX_ix {d:Dk} {x:Ix} (hx:IxOk x) (s:St) (g:Stg):IxOk (updateX d x s g).2.1:=by
 unfold updateX
 split
 ·exact hx
 split
 ·exact hx
 split
 ·exact compactX_ix hx s g
 exact layX_ix hx (fun l h=>(hx.link l h).2.2.2.2) hx.both hx.graph rfl
theorem noIx_ok:IxOk noIx:=⟨by simp [noIx],rfl,fun l h=>by simp [noIx]at h,fun i g h=>by simp [noIx]at h⟩
def findX (x:Ix) (n:Int):Option (Gr×Rw):=if n<0 then none else (x.graphs.find? fun g=>decide (n<g.base+g.rows.length)).bind fun g=>(g.rows[(n - g.base).toNat]?).map fun r=>(g,r)
theorem tot_mono {x:Ix} (h:IxOk x) {a b:Nat} (hab:a≤b):Ch.totLn (x.links.take a)≤Ch.totLn (x.links.take b):=by
  induction b with
  | zero => obtain rfl : a = 0 := by omega
            exact Int.le_refl _
  |succ b ih=>
    rcases Nat.lt_or_eq_of_le hab with q|q
    · have h1 := ih (by omega)
      cases hb:x.links[b]? with
      |none=>rw [List.take_add_one,hb];simpa using h1
      |some y=>
        rw [tot_take_succ _ _ _ hb]
        have:=(h.link y (List.mem_of_getElem? hb)).2.2.1
        omega
    · rw [q];exact Int.le_refl _
theorem base_end {x:Ix} (h:IxOk x) {i:Nat} {g:Gr} (hg:x.graphs[i]? = some g):g.base+g.rows.length=Ch.totLn (x.links.take (i+1))∧g.base=Ch.totLn (x.links.take i):=by
  obtain ⟨-,h1,l,h2,h3⟩:=h.graph i g hg
  exact ⟨by rw [tot_take_succ _ _ _ h2,h1,h3],h1⟩
theorem len_take {x:Ix} (h:IxOk x):x.len=Ch.totLn (x.links.take x.graphs.length):=by
  unfold Ix.len
  rw [h.both,List.take_length]
theorem findX_none {x:Ix} (h:IxOk x) {n:Int} (hn:n<0∨x.len≤n):findX x n=none:=by
  unfold findX
  split
  · rfl
  · rename_i h0
    have:(x.graphs.find? fun g=>decide (n<g.base+g.rows.length))=none:=by
      rw [List.find?_eq_none]
      intro g hg
      obtain ⟨i,hi⟩:=List.getElem?_of_mem hg
      have h1:=(base_end h hi).1
      have h2:=(List.getElem?_eq_some_iff.1 hi).1
      have h3:=tot_mono h (show i+1≤x.graphs.length by omega)
      rw [←len_take h]at h3
      simp only [decide_eq_true_eq]
      omega
    rw [this];rfl
theorem findX_at {x:Ix} (h:IxOk x) {n:Int} {i:Nat} {g:Gr} (hg:x.graphs[i]? = some g) (h1:Ch.totLn (x.links.take i)≤n) (h2:n<g.base+g.rows.length):∃ r,g.rows[(n - g.base).toNat]? = some r∧findX x n=some (g,r):=by
  obtain ⟨e1,e2⟩:=base_end h hg
  have h0:0≤n:=by have:=(tot_take h i).1;omega
  have hlt:(n - g.base).toNat<g.rows.length:=by omega
  refine ⟨_,List.getElem?_eq_getElem hlt,?_⟩
  unfold findX
  rw [if_neg (by omega)]
  have:(x.graphs.find? fun g=>decide (n<g.base+g.rows.length))=some g:=by
    rw [List.find?_eq_some_iff_getElem]
    obtain ⟨hi,he⟩:=List.getElem?_eq_some_iff.1 hg
    refine ⟨by simpa using h2,i,hi,he,fun j hj=>?_⟩
    have hj2:j<x.graphs.length:=by omega
    have h3:=(base_end h (List.getElem?_eq_getElem hj2)).1
    have h4:=tot_mono h (show j+1≤i by omega)
    simp only [Bool.not_eq_true',decide_eq_false_iff_not]
    omega
  rw [this]
  simp only [Option.bind_some,List.getElem?_eq_getElem hlt,Option.map_some]
theorem findX_some {x:Ix} (h:IxOk x) {n:Int} {g:Gr} {r:Rw} (hf:findX x n=some (g,r)):0≤n∧n<x.len∧∃ (i k:Nat),x.graphs[i]? = some g∧g.rows[k]? = some r∧n=g.base+(k:Nat):=by
  have hn:¬ (n<0∨x.len≤n):=fun q=>by rw [findX_none h q]at hf;simp at hf
  refine ⟨by omega,by omega,?_⟩
  unfold findX at hf
  rw [if_neg (by omega)]at hf
  obtain ⟨g',h1,h2⟩:=Option.bind_eq_some_iff.1 hf
  obtain ⟨r',h3,h4⟩:=Option.map_eq_some_iff.1 h2
  simp only [Prod.mk.injEq]at h4
  obtain ⟨rfl,rfl⟩:=h4
  obtain ⟨i,hi⟩:=List.getElem?_of_mem (List.mem_of_find?_eq_some h1)
  refine ⟨i,_,hi,h3,?_⟩
  have hp:=List.find?_some h1
  have hb:=(base_end h hi).2
  rw [List.find?_eq_some_iff_getElem]at h1
  obtain ⟨-,j,hj,he,hall⟩:=h1
  have hji:x.graphs[j]? = some g':=by rw [←he];exact List.getElem?_eq_getElem hj
  have hbj:=(base_end h hji).2
  have hle:Ch.totLn (x.links.take j)≤n:=by
    rcases Nat.eq_zero_or_pos j with q|q
    · subst q;simp only [List.take_zero,Ch.totLn];omega
    · have h5 := hall (j - 1) (by omega)
      have hj1:j - 1<x.graphs.length:=by omega
      have h6:=(base_end h (List.getElem?_eq_getElem hj1)).1
      simp only [Bool.not_eq_true',decide_eq_false_iff_not]at h5
      have e:j - 1+1=j:=by omega
      rw [e]at h6
      omega
  have:(((n - g'.base).toNat:Nat):Int)=n - g'.base:=Int.toNat_of_nonneg (by omega)
  omega
def RowsAt (w:World) (S T:Nat→Prop) (v:Value) (l:List Rw):Prop:=
 ∃ rvs,Sl w S 48 5 v rvs l.length∧(∀ r∈l,RwOk r)∧∀ (i:Nat) (r:Rw),l[i]? = some r→∃ a cap,rvs[i * 5]? = some (.slice a r.par.length cap)∧rvs[i * 5+1]? = some (.int .i64 r.tree)∧rvs[i * 5+2]? = some (.int .i64 r.gen) ∧
  rvs[i * 5+3]? = some (.int .i64 r.state)∧rvs[i * 5+4]? = some (.string r.bits)∧Ints w T a cap r.par
theorem RowsAt.nil (w:World) (S T:Nat→Prop):RowsAt w S T (.slice none 0 0) []:=⟨[],Sl.nil _ _ _ _,by simp,by simp⟩
theorem RowsAt.turned {w w' : World} {S T U:Nat→Prop} {v:Value} {l:List Rw} (h:RowsAt w S T v l) (ht:Turned U w w') (hS:∀ b,S b→¬ U b) (hT:∀ b,T b→¬ U b):RowsAt w' S T v l:=by
 obtain ⟨rvs,h1,h2,h3⟩:=h
 refine ⟨rvs,h1.turned ht hS,h2,fun i r hr=>?_⟩
 obtain ⟨a,cap,e0,e1,e2,e3,e4,e5⟩:=h3 i r hr
 exact ⟨a,cap,e0,e1,e2,e3,e4,e5.turned ht hT⟩
theorem RowsAt.mono {w:World} {S T S' T' : Nat→Prop} {v:Value} {l:List Rw} (h:RowsAt w S T v l) (hS:∀ b,S b→S' b) (hT:∀ b,T b→T' b):RowsAt w S' T' v l:=by
 obtain ⟨rvs,h1,h2,h3⟩:=h
 refine ⟨rvs,h1.widen hS,h2,fun i r hr=>?_⟩
 obtain ⟨a,cap,e0,e1,e2,e3,e4,e5⟩:=h3 i r hr
 exact ⟨a,cap,e0,e1,e2,e3,e4,e5.mono hT⟩
theorem RowsAt.is {w:World} {S T:Nat→Prop} {v:Value} {l:List Rw} (h:RowsAt w S T v l):∃ a cap,v = .slice a l.length cap∧RwIs w (fun b=>S b∨T b) a cap l:=by
 obtain ⟨rvs,h1,h2,h3⟩:=h
 by_cases h0:0<l.length
 ·obtain ⟨g, off, cap, rfl, hS, hn, hc, hcell, -, hlt⟩ := h1.opens h0
  refine ⟨_,cap,rfl,hn,hc,h2,fun _=>⟨g,off,rfl,.inl hS,hlt,fun i r hr=>?_⟩⟩
  have hi:=(List.getElem?_eq_some_iff.1 hr).1
  obtain ⟨a,cp,e0,e1,e2,e3,e4,e5⟩:=h3 i r hr
  refine ⟨a,cp,e5.mono fun b q=>.inr q,?_,?_,?_,?_,?_⟩
  ·rw [hcell _ (by omega)];exact e0
  ·rw [Nat.add_assoc,hcell _ (by omega)];exact e1
  ·rw [Nat.add_assoc,hcell _ (by omega)];exact e2
  ·rw [Nat.add_assoc,hcell _ (by omega)];exact e3
  ·rw [Nat.add_assoc,hcell _ (by omega)];exact e4
 ·obtain ⟨a, cap, rfl, hn, hc⟩ := h1.value
  exact ⟨a,cap,rfl,hn,hc,h2,fun q=>absurd q h0⟩
theorem RowsAt.snoc {w:World} {S T:Nat→Prop} {v' : Value} {l:List Rw} {r:Rw} {rvs:List Value} {a:Option Addr} {cap:Nat}
  (hl : rvs.length = l.length * 5) (h2 : ∀ r ∈ l, RwOk r) (h3 : ∀ (i : Nat) (r : Rw), l[i]? = some r → ∃ a cap, rvs[i * 5]? = some (.slice a r.par.length cap) ∧ rvs[i * 5 + 1]? = some (.int .i64 r.tree) ∧ rvs[i * 5 + 2]? = some (.int .i64 r.gen) ∧
   rvs[i * 5+3]? = some (.int .i64 r.state)∧rvs[i * 5+4]? = some (.string r.bits)∧Ints w T a cap r.par)
  (hr:RwOk r) (hp:Ints w T a cap r.par) (hs:Sl w S 48 5 v' (rvs ++ [.slice a r.par.length cap,.int .i64 r.tree,.int .i64 r.gen,.int .i64 r.state,.string r.bits]) (l.length+1)):RowsAt w S T v' (l ++ [r]):=by
 refine ⟨_,by rw [List.length_append];exact hs,fun y hy=>?_,fun i y hi=>?_⟩
 ·rcases List.mem_append.1 hy with q | q
  ·exact h2 y q
  ·rw [List.mem_singleton]at q;subst q;exact hr
 ·rw [List.getElem?_append] at hi
  split at hi
  ·rename_i q
   obtain ⟨b,c,e0,e1,e2,e3,e4,e5⟩:=h3 i y hi
   refine ⟨b,c,?_,?_,?_,?_,?_,e5⟩
   ·rw [List.getElem?_append_left (by omega)];exact e0
   ·rw [List.getElem?_append_left (by omega)];exact e1
   ·rw [List.getElem?_append_left (by omega)];exact e2
   ·rw [List.getElem?_append_left (by omega)];exact e3
   ·rw [List.getElem?_append_left (by omega)];exact e4
  ·rename_i q
   have hie:i=l.length:=by
    have:=(List.getElem?_eq_some_iff.1 hi).1
    simp only [List.length_cons,List.length_nil]at this
    omega
   subst hie
   simp only [Nat.sub_self,List.getElem?_cons_zero,Option.some.injEq]at hi
   subst hi
   refine ⟨a,cap,?_,?_,?_,?_,?_,hp⟩
   ·rw [List.getElem?_append_right (by omega)];simp [hl]
   ·rw [List.getElem?_append_right (by omega)];simp [hl]
   ·rw [List.getElem?_append_right (by omega)];simp [hl]
   ·rw [List.getElem?_append_right (by omega)];simp [hl]
   ·rw [List.getElem?_append_right (by omega)];simp [hl]
theorem info3g:(Tryz.prog.info? 3).map (fun i=>(i.zero,i.size,i.bytes))=some (some (.int .i64 0),1,8):=by kernel_rfl
theorem ic_app (a b:List Int):ic (a ++ b)=ic a ++ ic b:=by simp [ic]
theorem GraphsAt.at {w:World} {rl:Nat→Nat} {gv:Value} {l:List Gr} (h:GraphsAt w rl gv l) {i:Nat} {g:Gr} (hi:l[i]? = some g):∃ b off cap a c,gv = .slice (some ⟨b,off,none⟩) l.length cap∧b<w.heap.size∧rl b=3 ∧
  w.cell? ⟨b,off+i * 6,none⟩=some (.int .i64 g.base)∧w.cell? ⟨b,off+i * 6+1,none⟩=some (.int .i64 g.h)∧w.cell? ⟨b,off+i * 6+2,none⟩=some (.int .i64 g.p)∧w.cell? ⟨b,off+i * 6+3,none⟩=some (.int .i64 g.m)∧w.cell? ⟨b,off+i * 6+4,none⟩=some (.int .u32 (g.seed:Nat)) ∧
  w.cell? ⟨b,off+i * 6+5,none⟩=some (.slice a g.rows.length c)∧GrOk g∧RwIs w (fun b=>rl b=4) a c g.rows:=by
 obtain ⟨gvs,h1,h2⟩:=h
 have hl:=(List.getElem?_eq_some_iff.1 hi).1
 obtain ⟨b,off,cap,rfl,hb,-,-,hcell,-,hlt⟩:=h1.opens (by omega)
 obtain ⟨a,c,e0,e1,e2,e3,e4,e5,e6,e7⟩:=h2 i g hi
 refine ⟨b,off,cap,a,c,rfl,hlt,hb,?_,?_,?_,?_,?_,?_,e6,e7⟩
 ·rw [hcell _ (by omega)];exact e0
 ·rw [Nat.add_assoc,hcell _ (by omega)];exact e1
 ·rw [Nat.add_assoc,hcell _ (by omega)];exact e2
 ·rw [Nat.add_assoc,hcell _ (by omega)];exact e3
 ·rw [Nat.add_assoc,hcell _ (by omega)];exact e4
 ·rw [Nat.add_assoc,hcell _ (by omega)];exact e5
theorem GraphsAt.len {w:World} {rl:Nat→Nat} {gv:Value} {l:List Gr} (h:GraphsAt w rl gv l):∃ a cap,gv = .slice a l.length cap:=by
 obtain ⟨gvs,h1,-⟩:=h
 obtain ⟨a,cap,e,-,-⟩:=h1.value
 exact ⟨a,cap,e⟩
def gensOf (g:Gr):List Int:=g.rows.map (·.gen)
theorem gensOf_len (g:Gr):(gensOf g).length=g.rows.length:=by simp [gensOf]
def GnPost (w:World) (l:List Int) (e:Ending) (w' : World):Prop:=
 ∃ v,e = .returned v∧Sl w' (fun b=>w.heap.size≤b) 3 1 v (ic l) l.length∧Turned (fun _=>False) w w'
def G1Rel (w:World) (gs:List Gr) (g:Nat) (lv iv:Value) (wr:World):Prop:=
 ∃ i:Nat,i+g=gs.length∧iv = .int .i64 (i:Nat)∧Sl wr (fun b=>w.heap.size≤b) 3 1 lv (ic ((gs.take i).flatMap gensOf)) ((gs.take i).flatMap gensOf).length∧Turned (fun b=>w.heap.size≤b) w wr
def G2Rel (w:World) (pre:List Int) (rs:List Rw) (g:Nat) (lv iv:Value) (wr:World):Prop:=
 ∃ j:Nat,j+g=rs.length∧iv = .int .i64 (j:Nat)∧Sl wr (fun b=>w.heap.size≤b) 3 1 lv (ic (pre ++ (rs.take j).map (·.gen))) (pre.length+j)∧Turned (fun b=>w.heap.size≤b) w wr
set_option maxHeartbeats 4000000 in
theorem xgens_any {w:World} {rl:Nat→Nat} {p:Nat} {dv lv gv:Value} {x:Ix} (h:IxAt w rl p dv lv gv x) (hok:IxOk x):Calls Tryz.prog 64 #[pt p] w (GnPost w (gensX x)):=by
 obtain ⟨Z,hZ⟩:∃ Z,Z=GnPost w (gensX x):=⟨_,rfl⟩
 have HZ:Hid (Z=GnPost w (gensX x)):=hZ
 rw [←hZ]
 have HG:Hid (GraphsAt w rl gv x.graphs):=h.graphs
 have HBD:Hid (∀ i,i≤x.graphs.length→((x.graphs.take i).flatMap gensOf).length≤524288):=fun i hi=>by
  have h1:(((x.graphs.take i).flatMap gensOf).length:Int)=Ch.totLn (x.links.take i):=gensX_take hok i (by rw [←hok.both];exact hi)
  have h2:=tot_take hok i
  omega
 have HRB:Hid (∀ b,rl b≠0→b<w.heap.size):=h.bnd
 obtain ⟨ga,gc,hgv⟩:=h.graphs.len
 subst hgv
 have c2:w.cell? ⟨p,2,none⟩=some (.slice ga x.graphs.length gc):=cell_of h.blk 2 _ rfl
 have hlt:=lt_of_block h.blk
 have HE:Hid (gensX x=x.graphs.flatMap gensOf):=hidS rfl
 have hlm:x.graphs.length≤8:=by rw [hok.both];exact hok.many
 have HRL:Hid (∀ g∈x.graphs,g.rows.length≤65536):=fun g hg=>by
  obtain ⟨i,hi⟩:=List.getElem?_of_mem hg
  obtain ⟨h1,h2,h3⟩:=(hok.graph i g hi).1.1
  omega
 generalize x.graphs=gs at *
 have HLM:Hid (gs.length≤8):=hlm
 obtain ⟨L,hL⟩:∃ L,L=gs.length:=⟨_,rfl⟩
 have HL:Hid (L=gs.length):=hL
 rw [←hL]at c2
 clear hZ h hok hL hlm
 go_enter Tryz.func64,Tryz.ntmps64
 go_wp2
 have B0:Hid (G1Rel w gs L (.slice none 0 0) (.int .i64 0) w):=⟨0,by have:=HL.out;omega,rfl,by simpa [ic] using Sl.nil _ _ _ _,Turned.refl _ _⟩
 go_loopg [3,13] L (fun g lv iv wr=>G1Rel w gs g lv iv wr)
 case atStart=>exact B0.out
 case round=>
  clear B0
  obtain ⟨i,hig,rfl,hsl,ht⟩:=hrel
  have G:Hid (i+gk=gs.length):=hig
  have HT:Hid (Turned (fun b=>w.heap.size≤b) w wr):=ht
  obtain ⟨la,lc,rfl,-,-⟩:=hsl.value
  have HSL:Hid _:=hidS hsl
  clear hig ht hsl
  by_cases hlt2:i<L
  ·obtain ⟨g, hg⟩ : ∃ g, gs[i]? = some g := ⟨_, List.getElem?_eq_getElem (by rw [← HL.out]; exact hlt2)⟩
   have HGI:Hid (gs[i]? = some g):=hg
   obtain ⟨b,off,cap,ra,rc,hga,hbl,hb3,c0,c1,c2',c3,c4,c5,gok,hrw⟩:=HG.out.at hg
   simp only [Value.slice.injEq]at hga
   obtain ⟨rfl,-,-⟩:=hga
   have hnb:¬ w.heap.size≤b:=by omega
   replace c0:=cell_at c0 HT.out hnb
   replace c1:=cell_at c1 HT.out hnb
   replace c2':=cell_at c2' HT.out hnb
   replace c3:=cell_at c3 HT.out hnb
   replace c4:=cell_at c4 HT.out hnb
   replace c5:=cell_at c5 HT.out hnb
   have hbr:b<wr.heap.size:=Nat.lt_of_lt_of_le hbl HT.out.size
   obtain ⟨R,hR⟩:∃ R,R=g.rows:=⟨_,rfl⟩
   obtain ⟨K,hK⟩:∃ K,K=R.length:=⟨_,rfl⟩
   rw [←hR,←hK]at c5
   rw [←hR]at hrw
   have HK:Hid (K=R.length∧R=g.rows∧K≤65536):=⟨hK,hR,by rw [hK,hR];exact HRL.out g (List.mem_of_getElem? hg)⟩
   have HRW:Hid (RwIs w (fun b=>rl b=4) ra rc R):=hrw
   obtain ⟨pre,hpre⟩:∃ pre,pre=(gs.take i).flatMap gensOf:=⟨_,rfl⟩
   rw [←hpre]at HSL
   obtain ⟨pn,hpn⟩:∃ pn,pn=pre.length:=⟨_,rfl⟩
   rw [←hpre,←hpn]
   have HPR:Hid (pn=pre.length∧pre=(gs.take i).flatMap gensOf):=⟨hpn,hpre⟩
   have HPB:Hid (pn+K≤524288):=hidS (by
    have h1:=HBD.out (i+1) (by rw [←HL.out];omega)
    have e1:gs.take (i+1)=gs.take i ++ [g]:=by rw [List.take_add_one,hg];rfl
    rw [e1,List.flatMap_append,List.length_append,←hpre,←hpn]at h1
    simp only [List.flatMap_cons,List.flatMap_nil,List.append_nil,gensOf_len]at h1
    rw [hK,hR];exact h1)
   have HSL2:Hid (Sl wr (fun b=>w.heap.size≤b) 3 1 (.slice la pn lc) (ic pre) pn):=by rw [hpn];exact HSL.out
   obtain ⟨W1,hW1⟩:∃ W1,W1=wr.alloc (.cells #[.int .i64 g.base,.int .i64 g.h,.int .i64 g.p,.int .i64 g.m,.int .u32 (g.seed:Nat),.slice ra K rc] 123):=⟨_,rfl⟩
   have HW1:Hid (W1=wr.alloc (.cells #[.int .i64 g.base,.int .i64 g.h,.int .i64 g.p,.int .i64 g.m,.int .u32 (g.seed:Nat),.slice ra K rc] 123)):=hW1
   have B2:Hid (G2Rel w pre R K (.slice la pn lc) (.int .i64 0) W1):=hidS (by
    rw [hW1]
    refine ⟨0,by rw [hK];omega,rfl,?_,HT.out.new _⟩
    simp only [List.take_zero,List.map_nil,List.append_nil,Nat.add_zero]
    rw [←hpn]
    exact HSL2.out.turned (Turned.alloc (fun _=>False) _ _) fun _ _ z=>z)
   clear hg hbl hb3 hnb gok hrw hR hK hpre hpn hW1 HSL
   go_wp2
   rw [←HW1.out]
   generalize wr=Wk at *
   generalize hgkk:gk=Gk at *
   clear hgkk
   go_loopg [3,20] K (fun g lv iv wr=>G2Rel w pre R g lv iv wr)
   case atStart=>exact B2.out
   case round=>
    clear B2
    obtain ⟨j,hjg,rfl,hsl,ht⟩:=hrel
    have G2:Hid (j+gk=R.length):=hjg
    have HT2:Hid (Turned (fun b=>w.heap.size≤b) w wr):=ht
    obtain ⟨ja,jc,rfl,-,-⟩:=hsl.value
    have HSJ:Hid _:=hidS hsl
    clear hjg ht hsl
    by_cases hlt3:j<K
    ·obtain ⟨r, hr⟩ : ∃ r, R[j]? = some r := ⟨_, List.getElem?_eq_getElem (by rw [← HK.out.1]; exact hlt3)⟩
     have HR:Hid (R[j]? = some r):=hr
     obtain ⟨q,qo,rfl,hq4,hql,pa,pcap,hints,d0,d1,d2,d3,d4⟩:=rows_at HRW.out j r hr
     have hnq:¬ w.heap.size≤q:=by omega
     replace d0:=cell_at d0 HT2.out hnq
     replace d1:=cell_at d1 HT2.out hnq
     replace d2:=cell_at d2 HT2.out hnq
     replace d3:=cell_at d3 HT2.out hnq
     replace d4:=cell_at d4 HT2.out hnq
     have hqr:q<wr.heap.size:=Nat.lt_of_lt_of_le hql HT2.out.size
     have m1:Hid (pn+j+1≤maxLen∧(pn+j+1) * 8≤140737488355328):=hidS (by have:=HPB.out;simp only [maxLen];omega)
     rw [←HPR.out.1]at HSJ
     rw [←HPR.out.1]
     obtain ⟨W2,hW2⟩:∃ W2,W2=(wr.alloc (.cells #[.slice pa r.par.length pcap,.int .i64 r.tree,.int .i64 r.gen,.int .i64 r.state,.string r.bits] 48)).alloc (.cells #[.int .i64 r.gen] 3):=⟨_,rfl⟩
     have T2:Hid (Turned (fun _=>False) wr ((wr.alloc (.cells #[.slice pa r.par.length pcap,.int .i64 r.tree,.int .i64 r.gen,.int .i64 r.state,.string r.bits] 48)).alloc (.cells #[.int .i64 r.gen] 3))):=(Turned.alloc _ _ _).new _
     have SRC:Hid (Src Tryz.prog 1 41 (.slice (some ⟨wr.heap.size+1,0,none⟩) 1 1) 1 [.int .i64 r.gen] ((wr.alloc (.cells #[.slice pa r.par.length pcap,.int .i64 r.tree,.int .i64 r.gen,.int .i64 r.state,.string r.bits] 48)).alloc (.cells #[.int .i64 r.gen] 3))):=hidS (by
      have:=src_one (P:=Tryz.prog) Tryz.underlying41 (.int .i64 r.gen) rfl (wr.alloc (.cells #[.slice pa r.par.length pcap,.int .i64 r.tree,.int .i64 r.gen,.int .i64 r.state,.string r.bits] 48))
      simpa using this)
     clear hr hql hnq hints hq4 hW2
     go_wp2_with (at_builtin;refine wpList_append rfl _ _ 41 41 rfl (HSJ.out.turned (T:=fun _=>False) T2.out (fun _ _ q=>q)) Tryz.underlying41 info3g rfl (by decide) rfl (.slice (some ⟨wr.heap.size+1,0,none⟩) 1 1) rfl SRC.out m1.out.1 m1.out.2 ?_;intro v5 w5 hsl5 ht5;obtain ⟨a5,c5',rfl,-,-⟩:=hsl5.value;have Y:Hid _:=hidS (And.intro hsl5 ht5);clear hsl5 ht5)
     go_roundg (gk - 1)
     case measure=>have:=G2.out;have:=HK.out;omega
     case rel=>
      refine ⟨j+1,by have:=G2.out;have:=HK.out;omega,by have:=HK.out;simp [wrap64];omega,?_,HT2.out.trans (T2.out.comp Y.out.2 fun i hi z=>z.elim False.elim id) fun _ _ z=>z⟩
      have e1:R.take (j+1)=R.take j ++ [r]:=by rw [List.take_add_one,HR.out];rfl
      rw [e1,List.map_append,←List.append_assoc,ic_app,←HPR.out.1]
      refine Y.out.1.widen fun b hb=>?_
      have h1:=HT2.out.size
      have h2:=T2.out.size
      rcases hb with z|z
      ·exact z
      ·omega
    ·have hj : j = K := by have := G2.out; have := HK.out; omega
     have HE2:Hid (R.take j=R):=List.take_of_length_le (by have:=HK.out;omega)
     rw [HE2.out]at HSJ
     clear hlt3
     subst hj
     go_wp2
     go_roundg (Gk - 1)
     case measure=>have:=G.out;have:=HL.out;omega
     case rel=>
      have e1:gs.take (i+1)=gs.take i ++ [g]:=by rw [List.take_add_one,HGI.out];rfl
      have e2:(gs.take (i+1)).flatMap gensOf=pre ++ R.map (·.gen):=by
       rw [e1,List.flatMap_append,←HPR.out.2,HK.out.2.1];simp [gensOf]
      refine ⟨i+1,by have:=G.out;have:=HL.out;omega,by have:=HLM.out;have:=HL.out;simp [wrap64];omega,?_,HT2.out⟩
      rw [e2,List.length_append,List.length_map,←HK.out.1]
      exact HSJ.out
  ·have hi : i = L := by have := G.out; have := HL.out; omega
   have HE3:Hid (gs.take i=gs):=List.take_of_length_le (by have:=HL.out;omega)
   rw [HE3.out]at HSL
   rw [HE3.out]
   clear hlt2
   subst hi
   go_wp2
   rw [HZ.out]
   exact ⟨_,rfl,by rw [HE.out];exact HSL.out,HT.out.mono fun i hi z=>by omega⟩
end Go.Proofs.YtofcogekgcgjhaaGreatDoor
