/- Packed. -/
import Derived.Test.YtofcogekgcgjhaaGreatDoorZzbj
import Derived.Test.YtofcogekgcgjhaaGreatDoorZzbn
import Derived.Deep.RegionHeld3
set_option linter.unusedVariables false
set_option linter.unusedSimpArgs false
set_option maxRecDepth 100000
namespace Go.Proofs.YtofcogekgcgjhaaGreatDoor
open Go.RowKit Go.Mine Go.Mine.Ac
theorem layTail_1 {D D1:Dk} {n:Int} {text list:ByteArray} {k:Nat} (h:writeX D graphT text (Ch.nameS n)=(D1,k)) (hk:k≠0):layTail D n text list=(D1,k):=by
 unfold layTail
 rw [h]
 cases k with
 |zero=>exact absurd rfl hk
 |succ k=>rfl
theorem layTail_2 {D D1 D2:Dk} {n:Int} {text list:ByteArray} {k:Nat} (h:writeX D graphT text (Ch.nameS n)=(D1,0)) (h2:writeX D1 chainT list chainB=(D2,k)) (hk:k≠0):layTail D n text list=(D2,k):=by
 unfold layTail
 rw [h]
 simp only
 rw [h2]
 cases k with
 |zero=>exact absurd rfl hk
 |succ k=>rfl
theorem layTail_3 {D D1 D2:Dk} {n:Int} {text list:ByteArray} (h:writeX D graphT text (Ch.nameS n)=(D1,0)) (h2:writeX D1 chainT list chainB=(D2,0)):layTail D n text list=D2.syncNames:=by
 unfold layTail
 rw [h]
 simp only
 rw [h2]
 rfl
theorem layX_e1 {D:Dk} {x:Ix} {links:List Ch.Ln} {graphs:List Gr} {g:Gr} (h:(encE g).2≠0):layX D x links graphs g=(D,x,(encE g).2):=by unfold layX;rw [if_pos h]
theorem layX_e2 {D:Dk} {x:Ix} {links:List Ch.Ln} {graphs:List Gr} {g:Gr} (h:(encE g).2=0) (h2:(encL (linkX x links g)).2≠0):layX D x links graphs g=(D,x,(encL (linkX x links g)).2):=by
 unfold layX;rw [if_neg (by simpa using h),if_pos h2]
theorem layX_e3 {D D1:Dk} {x:Ix} {links:List Ch.Ln} {graphs:List Gr} {g:Gr} {k:Nat} (h:(encE g).2=0) (h2:(encL (linkX x links g)).2=0) (h3:layTail D (Ch.nxt x.links) (encE g).1 (encL (linkX x links g)).1=(D1,k)) (hk:k≠0):layX D x links graphs g=(failX D1 (Ch.nxt x.links),x,k):=by
 unfold layX;rw [if_neg (by simpa using h),if_neg (by simpa using h2),h3]
 cases k with
 |zero=>exact absurd rfl hk
 |succ k=>rfl
theorem layX_ok {D D1:Dk} {x:Ix} {links:List Ch.Ln} {graphs:List Gr} {g:Gr} (h:(encE g).2=0) (h2:(encL (linkX x links g)).2=0) (h3:layTail D (Ch.nxt x.links) (encE g).1 (encL (linkX x links g)).1=(D1,0)) :
  layX D x links graphs g=(sweepX (linkX x links g) D1.names D1,⟨linkX x links g,graphs ++ [g]⟩,0):=by
 unfold layX;rw [if_neg (by simpa using h),if_neg (by simpa using h2),h3];rfl
/-! ### In memory -/
structure LayIn (w:World) (S:Nat→Prop) (rx:Nat→Nat) (d p:Nat) (lv gv:Value) (D:Dk) (x:Ix) (SL SG SR:Nat→Prop) (la:Option Addr) (lc:Nat) (links:List Ch.Ln) (ga:Option Addr) (gc:Nat) (graphs:List Gr) (gvs:List Value) (ra:Option Addr) (rc:Nat) (g:Gr):Prop where
 disk:FsIs w S d D
 ok:D.Ok
 few:Few D 800000000
 sb:∀ b,S b→b<w.heap.size
 ix:IxAt w rx p (pt d) lv gv x
 ixok:IxOk x
 low:Ch.Low x.links
 dis:∀ b,S b→rx b=0
 ls:Sl w SL 120 3 (.slice la links.length lc) (Ch.lcells links) links.length
 lok:Ch.LnOk links
 lmany:links.length≤8
 gs:Sl w SG 123 6 (.slice ga graphs.length gc) gvs graphs.length
 gat:∀ (i:Nat) (y:Gr),graphs[i]? = some y→∃ a cap,gvs[i * 6]? = some (.int .i64 y.base)∧gvs[i * 6+1]? = some (.int .i64 y.h)∧gvs[i * 6+2]? = some (.int .i64 y.p)∧gvs[i * 6+3]? = some (.int .i64 y.m)∧gvs[i * 6+4]? = some (.int .u32 (y.seed:Nat))∧gvs[i * 6+5]? = some (.slice a y.rows.length cap)∧GrOk y∧RwIs w SR a cap y.rows
 gmany:graphs.length≤8
 rows:RwIs w SR ra rc g.rows
 gok:GrOk g
 gfew:g.rows.length≤65536
 sl:∀ b,SL b→¬ S b
 sg:∀ b,SG b→¬ S b∧¬ b=p
 sr:∀ b,SR b→¬ S b∧¬ b=p∧b<w.heap.size
 tab:∀ W,Turned (fun b=>S b∨b=p) w W→Ch.Tab W∧Ch.Errs W
def LayPost (w:World) (S SR:Nat→Prop) (rx:Nat→Nat) (d p:Nat) (r:Dk×Ix×Nat) (e:Ending) (w' : World):Prop:=
 e = .returned (.int .i64 (r.2.2:Nat))∧∃ S' rx' lv' gv',FsIs w' S' d r.1∧(∀ b,S' b→S b∨w.heap.size≤b)∧(∀ b,S' b→b<w'.heap.size)∧IxAt w' rx' p (pt d) lv' gv' r.2.1∧(∀ b,rx' b≠0→rx b≠0∨SR b∨w.heap.size≤b)∧(∀ b,S' b→rx' b=0)∧Turned (fun b=>S b∨b=p) w w'
theorem LayIn.stay {w w' : World} {S SL SG SR:Nat→Prop} {rx:Nat→Nat} {d p:Nat} {lv gv:Value} {D:Dk} {x:Ix} {la ga ra:Option Addr} {lc gc rc:Nat} {links:List Ch.Ln} {graphs:List Gr} {gvs:List Value} {g:Gr} {k:Nat} (h:LayIn w S rx d p lv gv D x SL SG SR la lc links ga gc graphs gvs ra rc g)
  (t:Turned (fun _=>False) w w'):LayPost w S SR rx d p (D,x,k) (.returned (.int .i64 (k:Nat))) w':=
 ⟨rfl,S,rx,lv,gv,h.disk.turned t fun _ _ z=>z,fun b hb=>.inl hb,fun b hb=>Nat.lt_of_lt_of_le (h.sb b hb) t.size,h.ix.turned t fun _ _ z=>z,fun b hb=>.inl hb,h.dis,t.mono fun _ _ z=>z.elim⟩
theorem built_size2 (l:List Ch):(built l).size=10+8 * l.length+dataSize l:=by
 unfold built
 rw [sealed_size,ba_size]
 have h1:(sortCh l).length=l.length:=sortCh_length l
 have h2:dataSize (sortCh l)=dataSize l:=dataSize_perm (sortCh_perm l)
 simp only [bodyCh,magicC,List.length_append,List.length_cons,List.length_nil,num_length,tableCh_length,dataCh_length]
 omega
theorem encE_size (g:Gr):(encE g).1.size≤4194304:=by
 unfold encE
 split
 ·split
  ·simp [emp,ByteArray.size]
  ·split
   ·rename_i h
    rw [built_size2]
    unfold buildErr at h
    split at h
    ·simp at h
    ·split at h
     ·exact absurd h (by assumption)
     ·split at h
      ·simp at h
      ·omega
   ·simp [emp,ByteArray.size]
 ·simp [emp,ByteArray.size]
theorem encL_size (l:List Ch.Ln):(encL l).1.size≤1000:=by
 unfold encL
 split
 ·rename_i h
  have h1:=(Ch.lnErr_ok l h).1
  unfold Ch.toldLn
  rw [sealed_size]
  have h2:∀ (u:List UInt8),(⟨u.toArray⟩:ByteArray).size=u.length:=fun u=>by simp [ByteArray.size]
  rw [h2]
  unfold Ch.bodyLn
  simp only [List.length_append,num_length,Ch.rowsLn_length,Ch.magicM,List.length_cons,List.length_nil]
  omega
 ·simp [emp,ByteArray.size]
theorem src120 (a b c:Value) (h1:∀ u∈[a,b,c],u.oneCell'=true) (U:World):Src Tryz.prog 3 113 (.slice (some ⟨U.heap.size,0,none⟩) 1 1) 1 [a,b,c] (U.alloc (.cells #[a,b,c] 120))∧Src Tryz.prog 3 113 (.slice (some ⟨U.heap.size,0,none⟩) 1 1) 1 [a,b,c] (U.alloc (.cells #[a,b,c] 120)).drew:=⟨src_new 120 Tryz.underlying113 _ h1 U,src_newD 120 Tryz.underlying113 _ h1 U⟩
theorem lcells_app (a b:List Ch.Ln):Ch.lcells (a ++ b)=Ch.lcells a ++ Ch.lcells b:=by
 induction a with
 |nil=>rfl
 |cons x a ih=>simp [Ch.lcells,ih]
theorem lcells_one (l:List Ch.Ln):∀ u∈Ch.lcells l,u.oneCell'=true:=by
 induction l with
 |nil=>simp [Ch.lcells]
 |cons x l ih=>
  intro u hu
  simp only [Ch.lcells,List.mem_cons]at hu
  rcases hu with rfl|rfl|rfl|hu
  ·rfl
  ·rfl
  ·rfl
  ·exact ih u hu
theorem FsTo.draw {w w1:World} {S:Nat→Prop} {d:Nat} {D:Dk} (h:FsTo w S d D w1):FsTo w S d D w1.drew:=by
 obtain ⟨S1,a1,a2,a3,a4⟩:=h
 exact ⟨S1,a1.turned (Turned.drew (fun _=>False) _) fun _ _ z=>z,a2,a3,a4.draw⟩
theorem writeX_ok {n:Nat} {D:Dk} (h:D.Ok) (hf:Few D n) (tmp text name:ByteArray):(writeX D tmp text name).1.Ok∧Few (writeX D tmp text name).1 (n+2):=by
 have:=writeX_keeps (P:=fun n d=>Few d n∧d.Ok) (fun n d q=>⟨q.1.mono (Nat.le_succ _),q.2⟩) (fun n d s q=>⟨q.1.create s,q.2.createOk s⟩) (fun n d s t q=>⟨q.1.append s t,q.2.appendOk s t⟩) (fun n d s q=>⟨q.1.sync s,q.2.syncOk s⟩)
  (fun n d s t q=>⟨q.1.rename s t,q.2.renameOk s t⟩) ⟨hf,h⟩ tmp text name
 exact ⟨this.2,this.1⟩
theorem gcells_one {w:World} {SR:Nat→Prop} {gvs:List Value} {l:List Gr} (hl:gvs.length=l.length * 6) (h:∀ (i:Nat) (y:Gr),l[i]? = some y→∃ a cap,gvs[i * 6]? = some (.int .i64 y.base)∧gvs[i * 6+1]? = some (.int .i64 y.h)∧gvs[i * 6+2]? = some (.int .i64 y.p)∧gvs[i * 6+3]? = some (.int .i64 y.m)∧gvs[i * 6+4]? = some (.int .u32 (y.seed:Nat))∧gvs[i * 6+5]? = some (.slice a y.rows.length cap)∧GrOk y∧RwIs w SR a cap y.rows) :
  ∀ u∈gvs,u.oneCell'=true:=fun u hu=>by
 obtain ⟨j,hj⟩:=List.getElem?_of_mem hu
 have hjl:=(List.getElem?_eq_some_iff.1 hj).1
 have hi:j / 6<l.length:=by omega
 obtain ⟨a,cap,e0,e1,e2,e3,e4,e5,-,-⟩:=h (j / 6) _ (List.getElem?_eq_getElem hi)
 have hm:j % 6=0∨j % 6=1∨j % 6=2∨j % 6=3∨j % 6=4∨j % 6=5:=by omega
 rcases hm with q|q|q|q|q|q
 ·rw [show j=j / 6 * 6 by omega,e0]at hj;obtain rfl:=Option.some.inj hj;rfl
 ·rw [show j=j / 6 * 6+1 by omega,e1]at hj;obtain rfl:=Option.some.inj hj;rfl
 ·rw [show j=j / 6 * 6+2 by omega,e2]at hj;obtain rfl:=Option.some.inj hj;rfl
 ·rw [show j=j / 6 * 6+3 by omega,e3]at hj;obtain rfl:=Option.some.inj hj;rfl
 ·rw [show j=j / 6 * 6+4 by omega,e4]at hj;obtain rfl:=Option.some.inj hj;rfl
 ·rw [show j=j / 6 * 6+5 by omega,e5]at hj;obtain rfl:=Option.some.inj hj;rfl
def g6 (ra:Option Addr) (rc:Nat) (g:Gr):List Value:=[.int .i64 g.base,.int .i64 g.h,.int .i64 g.p,.int .i64 g.m,.int .u32 (g.seed:Nat),.slice ra g.rows.length rc]
theorem gcells_app {w:World} {SR:Nat→Prop} {gvs:List Value} {l:List Gr} {ra:Option Addr} {rc:Nat} {g:Gr} (hl:gvs.length=l.length * 6) (h:∀ (i:Nat) (y:Gr),l[i]? = some y→∃ a cap,gvs[i * 6]? = some (.int .i64 y.base)∧gvs[i * 6+1]? = some (.int .i64 y.h)∧gvs[i * 6+2]? = some (.int .i64 y.p)∧gvs[i * 6+3]? = some (.int .i64 y.m)∧gvs[i * 6+4]? = some (.int .u32 (y.seed:Nat))∧gvs[i * 6+5]? = some (.slice a y.rows.length cap)∧GrOk y∧RwIs w SR a cap y.rows)
  (hr:RwIs w SR ra rc g.rows) (hok:GrOk g):∀ (i:Nat) (y:Gr),(l ++ [g])[i]? = some y→∃ a cap,(gvs ++ g6 ra rc g)[i * 6]? = some (.int .i64 y.base)∧(gvs ++ g6 ra rc g)[i * 6+1]? = some (.int .i64 y.h)∧(gvs ++ g6 ra rc g)[i * 6+2]? = some (.int .i64 y.p)∧(gvs ++ g6 ra rc g)[i * 6+3]? = some (.int .i64 y.m)∧(gvs ++ g6 ra rc g)[i * 6+4]? = some (.int .u32 (y.seed:Nat))∧(gvs ++ g6 ra rc g)[i * 6+5]? = some (.slice a y.rows.length cap)∧GrOk y∧RwIs w SR a cap y.rows:=fun i y hy=>by
 rw [List.getElem?_append]at hy
 split at hy
 ·rename_i hi
  obtain ⟨a,cap,e0,e1,e2,e3,e4,e5,e6,e7⟩:=h i y hy
  refine ⟨a,cap,?_,?_,?_,?_,?_,?_,e6,e7⟩ <;> rw [List.getElem?_append_left (by omega)] <;> assumption
 ·rename_i hi
  have hie:i=l.length:=by
   have:=(List.getElem?_eq_some_iff.1 hy).1
   simp only [List.length_cons,List.length_nil]at this
   omega
  subst hie
  simp only [Nat.sub_self,List.getElem?_cons_zero,Option.some.injEq]at hy
  subst hy
  refine ⟨ra,rc,?_,?_,?_,?_,?_,?_,hok,hr⟩ <;> rw [List.getElem?_append_right (by omega),←hl]
  ·rw [Nat.sub_self];rfl
  ·rw [show gvs.length+1 - gvs.length=1 by omega];rfl
  ·rw [show gvs.length+2 - gvs.length=2 by omega];rfl
  ·rw [show gvs.length+3 - gvs.length=3 by omega];rfl
  ·rw [show gvs.length+4 - gvs.length=4 by omega];rfl
  ·rw [show gvs.length+5 - gvs.length=5 by omega];rfl
theorem src123_at {W:World} {b:Nat} (l:List Value) (hl:l.length=6) (h1:∀ u∈l,u.oneCell'=true) (hb:W.heap[b]? = some (.cells l.toArray 123)):Src Tryz.prog 6 114 (.slice (some ⟨b,0,none⟩) 1 1) 1 l W:=by
 rw [←hl]
 refine Src.ofSlice _ Tryz.underlying114 ⟨b,0,none⟩ 1 1 l (by simp) (fun j u hj=>?_) h1
 rw [Addr.add_lit,Nat.zero_add]
 exact cell_of hb j u (by simpa using hj)
theorem src123 (l:List Value) (hl:l.length=6) (h1:∀ u∈l,u.oneCell'=true) (U:World):Src Tryz.prog 6 114 (.slice (some ⟨U.heap.size,0,none⟩) 1 1) 1 l (U.alloc (.cells l.toArray 123)):=by
 rw [←hl];exact src_new 123 Tryz.underlying114 _ h1 U
theorem lay_lok {w:World} {S SL SG SR:Nat→Prop} {rx:Nat→Nat} {d p:Nat} {lv gv:Value} {D:Dk} {x:Ix} {la ga ra:Option Addr} {lc gc rc:Nat} {links:List Ch.Ln} {graphs:List Gr} {gvs:List Value} {g:Gr} (h:LayIn w S rx d p lv gv D x SL SG SR la lc links ga gc graphs gvs ra rc g) (he2:(encL (linkX x links g)).2=0):Ch.LnOk (linkX x links g)∧(linkX x links g).length≤8:=by
 refine ⟨fun y hy=>?_,(Ch.lnErr_ok _ (encL_ok he2)).1⟩
 unfold linkX at hy
 rcases List.mem_append.1 hy with q|q
 ·exact h.lok y q
 ·rw [List.mem_singleton] at q
  subst q
  have:=h.gfew
  have hnb:=Ch.nxt_bound x.links h.low
  refine ⟨⟨by simp only;omega,by simp only;omega⟩,⟨by simp only;omega,by simp only;omega⟩,?_⟩
  simp only
  exact crcsum_lt _
def LayMid (w:World) (S SR:Nat→Prop) (rx:Nat→Nat) (d p:Nat) (D3:Dk) (X:Ix) (lv' : Value) (w' : World):Prop:=
 ∃ S' rx' gv',FsIs w' S' d D3∧(∀ b,S' b→S b∨w.heap.size≤b)∧(∀ b,S' b→b<w'.heap.size)∧IxAt w' rx' p (pt d) lv' gv' X∧(∀ b,rx' b≠0→rx b≠0∨SR b∨w.heap.size≤b)∧(∀ b,S' b→rx' b=0)∧Turned (fun b=>S b∨b=p) w w'
theorem lay_ix {w w6 wc w4:World} {S SL SG SR:Nat→Prop} {rx:Nat→Nat} {d p:Nat} {lv gv:Value} {D:Dk} {x:Ix} {la ga ra:Option Addr} {lc gc rc:Nat} {links:List Ch.Ln} {graphs:List Gr} {gvs:List Value} {g:Gr} (h:LayIn w S rx d p lv gv D x SL SG SR la lc links ga gc graphs gvs ra rc g)
  {D3:Dk} {L:List Ch.Ln} {nv:Nat} {lv' gv' : Value} {S' : Nat→Prop} (hnv:w.heap.size≤nv) (hs6:Sl w6 (fun b=>nv≤b) 120 3 lv' (Ch.lcells L) L.length) (t6:Turned (fun _=>False) w w6)
  (f:FsTo w6 S d D3 wc) (hs4:Sl w4 S' 123 6 gv' (gvs ++ g6 ra rc g) (graphs.length+1)) (hS' : ∀ b,S' b→wc.heap.size≤b∧b<w4.heap.size) (t4:Turned (fun b=>wc.heap.size≤b) wc w4) :
  LayMid w S SR rx d p D3 ⟨L,graphs ++ [g]⟩ lv' ((w4.setCell ⟨p,1,none⟩ lv').setCell ⟨p,2,none⟩ gv'):=by
 classical
 obtain ⟨S1,f1,f2,f3,f4⟩:=f
 have hp:=lt_of_block h.ix.blk
 have z6:=t6.size
 have zc:=f4.size
 have z4:=t4.size
 have hpS:¬ S p:=fun z=>by have:=h.dis p z;rw [h.ix.r1]at this;simp at this
 have hp1:¬ S1 p:=fun q=>by
  rcases f2 p q with y|y
  ·exact hpS y
  ·omega
 have tA:Turned S w wc:=t6.comp f4 fun i _ q=>q.elim False.elim id
 have tB:Turned S w w4:=tA.comp t4 fun i hi q=>q.elim id fun z=>by omega
 have tE:Turned (fun b=>S b∨b=p) w ((w4.setCell ⟨p,1,none⟩ lv').setCell ⟨p,2,none⟩ gv'):=((tB.mono fun _ _ z=>.inl z).set (p:=⟨p,1,none⟩) (.inr rfl) _).set (p:=⟨p,2,none⟩) (.inr rfl) _
 have t4E:Turned (fun b=>b=p) w4 ((w4.setCell ⟨p,1,none⟩ lv').setCell ⟨p,2,none⟩ gv'):=((Turned.refl (fun b=>b=p) w4).set (p:=⟨p,1,none⟩) rfl _).set (p:=⟨p,2,none⟩) rfl _
 have hsz:((w4.setCell ⟨p,1,none⟩ lv').setCell ⟨p,2,none⟩ gv').heap.size=w4.heap.size:=by rw [setCell_size,setCell_size]
 have tcE:Turned (fun b=>wc.heap.size≤b∨b=p) wc ((w4.setCell ⟨p,1,none⟩ lv').setCell ⟨p,2,none⟩ gv'):=t4.comp t4E fun i _ q=>q
 have hb4:=boxed h.ix.blk tB hpS
 have hbE:((w4.setCell ⟨p,1,none⟩ lv').setCell ⟨p,2,none⟩ gv').heap[p]? = some (.cells #[pt d,lv',gv'] 116):=Go.Mine.heap_setCell_same (w:=w4.setCell ⟨p,1,none⟩ lv') (Go.Mine.heap_setCell_same (w:=w4) hb4 lv') gv'
 obtain ⟨rx',hrx⟩:∃ rx' : Nat→Nat,rx'=fun b=>if b=p then 1 else if SR b then 4 else if nv≤b∧b<w6.heap.size then 2 else if wc.heap.size≤b∧b<w4.heap.size then 3 else 0:=⟨_,rfl⟩
 have r1:rx' p=1:=by rw [hrx];simp
 have r4:∀ b,SR b→rx' b=4:=fun b hb=>by
  rw [hrx];simp only
  rw [if_neg (h.sr b hb).2.1,if_pos hb]
 have r2:∀ b,nv≤b→b<w6.heap.size→rx' b=2:=fun b h1 h2=>by
  rw [hrx];simp only
  rw [if_neg (by omega),if_neg (fun z=>by have:=(h.sr b z).2.2;omega),if_pos ⟨h1,h2⟩]
 have r3:∀ b,wc.heap.size≤b→b<w4.heap.size→rx' b=3:=fun b h1 h2=>by
  rw [hrx];simp only
  rw [if_neg (by omega),if_neg (fun z=>by have:=(h.sr b z).2.2;omega),if_neg (by omega),if_pos ⟨h1,h2⟩]
 have rn:∀ b,rx' b≠0→b=p∨SR b∨(nv≤b∧b<w6.heap.size)∨(wc.heap.size≤b∧b<w4.heap.size):=fun b hb=>by
  rw [hrx]at hb;simp only at hb
  by_cases q1:b=p
  ·exact .inl q1
  by_cases q2:SR b
  ·exact .inr (.inl q2)
  by_cases q3:nv≤b∧b<w6.heap.size
  ·exact .inr (.inr (.inl q3))
  by_cases q4:wc.heap.size≤b∧b<w4.heap.size
  ·exact .inr (.inr (.inr q4))
  rw [if_neg q1,if_neg q2,if_neg q3,if_neg q4]at hb
  exact absurd rfl hb
 refine ⟨S1,rx',gv',f1.turned tcE fun b hb z=>z.elim (fun z=>by have:=f3 b hb;omega) fun z=>hp1 (z ▸ hb),fun b hb=>(f2 b hb).imp id fun z=>by omega,fun b hb=>by have:=f3 b hb;omega,⟨r1,hbE,?_,⟨gvs ++ g6 ra rc g,?_,fun i y hy=>?_⟩,fun b hb=>?_⟩,fun b hb=>?_,fun b hb=>?_,tE⟩
 ·have e1 : Sl w6 (fun b => nv ≤ b ∧ b < w6.heap.size) 120 3 lv' (Ch.lcells L) L.length := hs6.bound
  have e2:=((e1.turned f4 fun b hb z=>by have:=h.sb b z;omega).turned tcE fun b hb z=>by omega)
  exact e2.widen fun b hb=>r2 b hb.1 hb.2
 ·have e1 := hs4.turned t4E fun b hb z => by have := hS' b hb; omega
  have e2:=e1.widen (T:=fun b=>rx' b=3) fun b hb=>r3 b (hS' b hb).1 (hS' b hb).2
  rw [show (graphs ++ [g]).length=graphs.length+1 by simp]
  exact e2
 ·obtain ⟨a, cap, e0, e1, e2, e3, e4, e5, e6, e7⟩ := gcells_app h.gs.1 h.gat h.rows h.gok i y hy
  exact ⟨a,cap,e0,e1,e2,e3,e4,e5,e6,(e7.turned tE fun b hb z=>z.elim (h.sr b hb).1 (h.sr b hb).2.1).mono r4⟩
 ·rcases rn b hb with z | z | z | z
  ·omega
  ·have:=(h.sr b z).2.2;omega
  ·omega
  ·omega
 ·rcases rn b hb with z | z | z | z
  ·left;rw [z,h.ix.r1];decide
  ·exact .inr (.inl z)
  ·right;right;omega
  ·right;right;omega
 ·apply Classical.byContradiction
  intro z
  have h3:=f3 b hb
  rcases rn b z with z|z|z|z
  ·exact hp1 (z ▸ hb)
  ·rcases f2 b hb with y | y
   ·exact (h.sr b z).1 y
   ·have:=(h.sr b z).2.2;omega
  ·rcases f2 b hb with y | y
   ·have:=h.sb b y;omega
   ·omega
  ·omega
def seqSnd:Code→Code | .seq _ y=>y|c=>c
theorem sweep_take (links:List Ch.Ln):∀ (l:List ByteArray) (j:Nat) (x:ByteArray) (D:Dk),l[j]? = some x→sweepX links (l.take (j+1)) D=if (Ch.progN x).2=true∧Ch.hasLn links (Ch.progN x).1=false then ((sweepX links (l.take j) D).remove x).1 else sweepX links (l.take j) D
 | [],j,x,D,h=>by simp at h
 |y :: l,0,x,D,h=>by
  simp only [List.getElem?_cons_zero,Option.some.injEq]at h
  subst h
  simp only [List.take_succ_cons,List.take_zero,sweepX]
 |y :: l,j+1,x,D,h=>by
  simp only [List.take_succ_cons,sweepX]
  exact sweep_take links l j x _ (by simpa using h)
theorem sweep_ok {links:List Ch.Ln} {l:List ByteArray} {n:Nat} {D:Dk} (h:D.Ok) (hf:Few D n):(sweepX links l D).Ok∧Few (sweepX links l D) (n+l.length):=by
 have:=sweepX_keeps (P:=fun n d=>Few d n∧d.Ok) (fun n d q=>⟨q.1.mono (Nat.le_succ _),q.2⟩) (fun n d s q=>⟨q.1.remove s,q.2.removeOk s⟩) links l n D ⟨hf,h⟩
 exact ⟨this.2,this.1⟩
theorem mem_insN (s x:ByteArray):∀ l,x∈insN s l↔x=s∨x∈l
 | []=>by simp [insN]
 |y :: l=>by
  rw [insN]
  split
  ·simp
  ·rw [List.mem_cons, mem_insN s x l, List.mem_cons]
   constructor
   ·rintro (h | h | h)
    ·exact .inr (.inl h)
    ·exact .inl h
    ·exact .inr (.inr h)
   ·rintro (h | h | h)
    ·exact .inr (.inl h)
    ·exact .inl h
    ·exact .inr (.inr h)
theorem mem_sortN (x:ByteArray) (l:List ByteArray):x∈sortN l↔x∈l:=by
 induction l with
 |nil=>simp [sortN]
 |cons y l ih=>
  have:sortN (y :: l)=insN y (sortN l):=rfl
  rw [this,mem_insN,ih,List.mem_cons]
theorem names_size {D:Dk} (h:D.Ok) {x:ByteArray} (hx:x∈D.names):x.size≤32:=by
 unfold Dk.names at hx
 split at hx
 ·simp at hx
 ·rw [mem_sortN] at hx
  obtain ⟨y,hy,rfl⟩:=List.mem_map.1 hx
  have:=h.seenOk.good y hy
  unfold goodName at this
  simp only [Bool.and_eq_true,decide_eq_true_eq]at this
  exact this.1.2
def SwRel (w:World) (S1:Nat→Prop) (d:Nat) (L:List Ch.Ln) (ns:List ByteArray) (D:Dk) (g:Nat) (iv:Value) (wr:World):Prop:=
 ∃ j:Nat,j+g=ns.length∧iv = .int .i64 (j:Nat)∧FsTo w S1 d (sweepX L (ns.take j) D) wr
set_option maxHeartbeats 8000000 in
theorem lay_tail {w wE:World} {S SR:Nat→Prop} {rx:Nat→Nat} {d p:Nat} {D3:Dk} {X:Ix} {la:Option Addr} {lc:Nat} (hm:LayMid w S SR rx d p D3 X (.slice la X.links.length lc) wE) (hL:Ch.LnOk X.links) (h8:X.links.length≤8) (hok:D3.Ok) (hf:Few D3 800000004) (tab:∀ W,Turned (fun b=>S b∨b=p) w W→Ch.Tab W∧Ch.Errs W) (x2 x3 x4 x5 x6 x7 x8 x9 x10 x11 x12 x13 x14 x15 x16 x17 x18 x19 x20 x21 x22 x23 x24 x25 x26 x27 x28 x29 x30 x31 x32 x33 x34 x35 x36 x37 x38 x39 x40 x41 x42 x43 x44 x45 x46 x47 x48 x49 x50 x51 x52 x53 x54 x55 x56 x57 x58 x59 x60 x61 x62 x63 x64 x65 x66 x67 x68 x69 x70 x71 x72 x73 x74 x75 x76 x77 x78 x79 x80 x81 x82 x83 x84 x85 x86 x87 x88 x89 x90 x91 x92 x93 x94 x95 x96 x97 x98 x99 x100 x101 x102 x103 x104 x105 x106 x107 x108 x109 x110 x111 x112 x113 x114 x115 x116 x117 x118 x119 x120 x121 x122 x123 x124 x125 x126 x127:Value) :
  (seqSnd (seqSnd (seqSnd (seqSnd (seqSnd (seqSnd (seqSnd (seqSnd (seqSnd (seqSnd  (Tryz.f62.body.getD .skip))))))))))).wp Tryz.prog (bodyPost Tryz.prog Tryz.f62 (LayPost w S SR rx d p (sweepX X.links D3.names D3,X,0))) { tmps:=#[pt p,.slice la X.links.length lc,x2,x3,x4,x5,x6,x7,x8,x9,x10,x11,x12,x13,x14,x15,x16,x17,x18,x19,x20,x21,x22,x23,x24,x25,x26,x27,x28,x29,x30,x31,x32,x33,x34,x35,x36,x37,x38,x39,x40,x41,x42,x43,x44,x45,x46,x47,x48,x49,x50,x51,x52,x53,x54,x55,x56,x57,x58,x59,x60,x61,x62,x63,x64,x65,x66,x67,x68,x69,x70,x71,x72,x73,x74,x75,x76,x77,x78,x79,x80,x81,x82,x83,x84,x85,x86,x87,x88,x89,x90,x91,x92,x93,x94,x95,x96,x97,x98,x99,x100,x101,x102,x103,x104,x105,x106,x107,x108,x109,x110,x111,x112,x113,x114,x115,x116,x117,x118,x119,x120,x121,x122,x123,x124,x125,x126,x127],defers:=[] } wE:=by
 obtain ⟨S1,rx',gv',f1,f2,f3,i1,i2,i3,i4⟩:=hm
 obtain ⟨Z,hZ⟩:∃ Z,Z=LayPost w S SR rx d p (sweepX X.links D3.names D3,X,0):=⟨_,rfl⟩
 have HZ:Hid (Z=LayPost w S SR rx d p (sweepX X.links D3.names D3,X,0)):=hZ
 rw [←hZ]
 have hp0:wE.cell? ⟨p,0,none⟩=some (pt d):=cell_of i1.blk 0 _ rfl
 have hlt:=lt_of_block i1.blk
 have hp1:¬ S1 p:=fun z=>by have:=i3 p z;rw [i1.r1]at this;simp at this
 have HPB:Hid (∀ W,Turned S1 wE W→W.cell? ⟨p,0,none⟩=some (pt d)∧p<W.heap.size):=fun W t=>by
  have:=boxed i1.blk t hp1
  exact ⟨cell_of this 0 _ rfl,lt_of_block this⟩
 obtain ⟨L,hLL⟩:∃ L,L=X.links:=⟨_,rfl⟩
 obtain ⟨nl,hnl⟩:∃ nl,nl=X.links.length:=⟨_,rfl⟩
 have HLI:Hid (∀ W,Turned S1 wE W→Ch.LnIs W la lc L):=fun W t=>by
  rw [hLL]
  obtain ⟨a',c',hv,hl⟩:=Ch.sl_lnIs i1.links hL
  simp only [Value.slice.injEq]at hv
  obtain ⟨rfl,-,rfl⟩:=hv
  obtain ⟨a2,c2,hv2,hl2⟩:=Ch.sl_lnIs (i1.links.turned t fun b hb z=>by have:=i3 b z;omega) hL
  simp only [Value.slice.injEq]at hv2
  obtain ⟨rfl,-,rfl⟩:=hv2
  exact hl2
 have HTB:Hid (∀ W,Turned S1 wE W→Ch.Tab W∧Ch.Errs W):=fun W t=>tab W (i4.comp t fun i hi z=>z.elim id fun z=>(f2 i z).elim .inl fun z=>by omega)
 obtain ⟨ns,hns⟩:∃ ns,ns=D3.names:=⟨_,rfl⟩
 obtain ⟨nn,hnn⟩:∃ nn,nn=ns.length:=⟨_,rfl⟩
 have HNB:Hid (∀ x∈ns,x.size≤32):=fun x hx=>names_size hok (hns ▸ hx)
 have HNN:Hid (nn=ns.length∧nn≤64):=⟨hnn,by rw [hnn,hns];exact names_len hok⟩
 have HNM:Hid (Calls Tryz.prog 36 #[pt d] wE fun e w'=>∃ a c,e = .returned (.slice a nn c)∧Sl w' (fun b=>wE.heap.size≤b∧b<w'.heap.size) 9 1 (.slice a nn c) (ns.map Value.string) nn∧Turned (fun _=>False) wE w'):=hidS ((fsNames f1 hok).mono fun e w' ⟨v,a,b,c⟩=>by
  rw [←hns,←hnn]at b
  obtain ⟨ca,cc,rfl,-,-⟩:=b.value
  exact ⟨ca,cc,a,b.bound,c⟩)
 have HF0:Hid (∀ W,Turned (fun _=>False) wE W→FsTo W S1 d D3 W):=fun W t=>FsTo.stay (f1.turned t fun _ _ z=>z) fun b hb=>Nat.lt_of_lt_of_le (f3 b hb) t.size
 have HRM:Hid (∀ (D1:Dk) (nm:ByteArray) (w6 W:World),D1.Ok→Few D1 900000000→FsTo w6 S1 d D1 W→Calls Tryz.prog 38 #[pt d,.string nm] W fun e w'=>(∃ k:Nat,e = .returned (.int .i64 (k:Nat)))∧FsTo w6 S1 d (D1.remove nm).1 w'):=fun D1 nm w6 W o f ⟨S2,a1,a2,a3,a4⟩=>
  (fsRemove a1 o (by have:=f.1;omega) nm).mono fun e w' ⟨x1,x2⟩=>⟨⟨_,x1⟩,x2.next a2 a4⟩
 have HOK:Hid (∀ j,(sweepX L (ns.take j) D3).Ok∧Few (sweepX L (ns.take j) D3) 900000000):=fun j=>by
  have h1:=sweep_ok (links:=L) (l:=ns.take j) hok hf
  exact ⟨h1.1,h1.2.mono (by have:=HNN.out;rw [List.length_take];omega)⟩
 have HSB:Hid (∀ b,S1 b→b<wE.heap.size):=f3
 have FIN:Hid (∀ w1 W,Turned (fun _=>False) wE w1→FsTo w1 S1 d (sweepX L ns D3) W→LayPost w S SR rx d p (sweepX X.links D3.names D3,X,0) (.returned (.int .i64 0)) W):=fun w1 W t1 ⟨S2,g1,g2,g3,g4⟩=>by
  rw [hLL,hns]at g1
  have z1:=t1.size
  have z0:=i4.size
  refine ⟨rfl,S2,rx',_,gv',g1,fun b hb=>?_,g3,(i1.turned t1 fun _ _ z=>z).turned g4 fun b hb z=>hb (i3 b z),i2,fun b hb=>?_,(i4.trans t1 fun _ _ z=>z.elim).comp g4 fun i hi z=>z.elim id fun z=>(f2 i z).elim .inl fun z=>by omega⟩
  ·rcases g2 b hb with z | z
   ·exact f2 b z
   ·right;omega
  ·rcases g2 b hb with z | z
   ·exact i3 b z
   ·apply Classical.byContradiction
    intro y
    have:=i1.bnd b y
    omega
 have HNL:Hid (L.length=nl):=hidS (by rw [hLL,hnl])
 rw [←hnl]
 clear hZ hp1 f1 f2 f3 i1 i2 i3 i4 hL h8 hok hf tab hLL hnl hns hnn
 obtain ⟨Q,hQ⟩:∃ Q,Q=bodyPost Tryz.prog Tryz.f62 Z:=⟨_,rfl⟩
 rw [←hQ]
 dsimp only [Tryz.f62,seqSnd,Option.getD]
 rw [hQ]
 clear hQ
 go_wp2_with (go_at_call 36;(with_reducible refine HNM.out.mono ?_);rintro e w1 ⟨na,nc,rfl,hs1,t1⟩;have N1:Hid _:=hidS (And.intro hs1 t1);clear hs1 t1)
 have B0:Hid (SwRel w1 S1 d L ns D3 nn (.int .i64 0) w1):=⟨0,by rw [HNN.out.1,Nat.zero_add],rfl,HF0.out w1 N1.out.2⟩
 go_loopg [105] nn (fun g iv wr=>SwRel w1 S1 d L ns D3 g iv wr)
 case atStart=>exact B0.out
 case round=>
  clear B0 hp0 hlt
  obtain ⟨j,hjg,rfl,hfs⟩:=hrel
  have G:Hid (j+gk=ns.length):=hjg
  have F:Hid (FsTo w1 S1 d (sweepX L (ns.take j) D3) wr):=hfs
  have TR:Hid (Turned S1 w1 wr):=hidS (by obtain ⟨_,_,_,_,t⟩:=hfs;exact t)
  have TE:Hid (Turned S1 wE wr):=hidS ((N1.out.2.mono fun _ _ z=>z.elim).trans TR.out fun _ _ z=>z)
  clear hjg hfs
  by_cases hlt:j<nn
  ·obtain ⟨x, hx⟩ : ∃ x, ns[j]? = some x := ⟨_, List.getElem?_eq_getElem (by rw [← HNN.out.1]; exact hlt)⟩
   obtain ⟨g1,o1,k1,hv1,hs1,-,-,hcell1,-,hl1⟩:=N1.out.1.opens (by omega)
   simp only [Value.slice.injEq]at hv1
   obtain ⟨rfl,-,-⟩:=hv1
   have c0:wr.cell? ⟨g1,o1+j,none⟩=some (.string x):=cell_at (by
    rw [hcell1 j (by omega)]
    rw [List.getElem?_map,hx];rfl) TR.out (fun z=>by have:=HSB.out _ z;omega)
   have hgl:g1<wr.heap.size:=Nat.lt_of_lt_of_le hl1 TR.out.size
   obtain ⟨pp0,pp1⟩:=HPB.out wr TE.out
   have HX:Hid (ns[j]? = some x∧x.size≤32):=⟨hx,HNB.out x (List.mem_of_getElem? hx)⟩
   have HNU:Hid (Calls Tryz.prog 138 #[.string x] wr fun e w'=>e = .returned (.tuple #[.int .i64 (Ch.progN x).1,.bool (Ch.progN x).2])∧Turned (fun _=>False) wr w'):=Ch.nnumber_any x wr (HTB.out wr TE.out).1 (HTB.out wr TE.out).2 (by have:=HX.out.2;omega)
   have HW:Hid (wrap64 ((j:Int)+1)=((j+1:Nat):Int)):=hidS (by have:=HNN.out;simp only [wrap64];omega)
   have hsw:=sweep_take L ns j x D3 hx
   have HCO:Hid (∀ W b k,Turned S1 wE W→W.cell? ⟨b,0,none⟩=some (.int .i64 k)→Calls Tryz.prog 139 #[.slice la nl lc,.func (.func 140) #[] #[pt b]] W fun e w'=>e = .returned (.bool (Ch.hasLn L k))∧Turned (fun _=>False) W w'):=fun W b k t hc=>by
    have:=Ch.xcontains_any la lc b L k W (HLI.out W t) hc
    rw [HNL.out]at this
    exact this
   clear hx hcell1 hs1 hl1
   obtain ⟨k,ok,hpk⟩:∃ k ok,Ch.progN x=(k,ok):=⟨_,_,rfl⟩
   rw [hpk]at HNU hsw
   dsimp only at HNU hsw
   have MV:Hid (∀ W,Turned (fun _=>False) wr W→FsTo w1 S1 d (sweepX L (ns.take j) D3) W):=fun W t=>by
    obtain ⟨S2,a1,a2,a3,a4⟩:=F.out
    exact ⟨S2,a1.turned t fun _ _ z=>z,a2,fun b hb=>Nat.lt_of_lt_of_le (a3 b hb) t.size,a4.trans t fun _ _ z=>z.elim⟩
   clear hpk
   cases ok with
   |false=>
    rw [if_neg (by simp)]at hsw
    have HS:Hid _:=hidS hsw
    clear hsw
    go_wp2_with (go_at_call 138;(with_reducible refine HNU.out.mono ?_);rintro e w2 ⟨rfl,t2⟩;replace t2:Hid _:=hidS t2)
    go_roundg (gk - 1)
    case measure=>have:=G.out;have:=HNN.out;omega
    case rel=>exact ⟨j+1,by have:=G.out;have:=HNN.out;omega,by rw [HW.out],by rw [HS.out];exact MV.out _ (t2.out.new _)⟩
   |true=>
    cases hh:Ch.hasLn L k with
    |true=>
     rw [if_neg (by rw [hh];simp)]at hsw
     have HS:Hid _:=hidS hsw
     have HH:Hid (Ch.hasLn L k=true):=hh
     clear hsw hh
     go_wp2_with (first
      |(go_at_call 138;(with_reducible refine HNU.out.mono ?_);rintro e w2 ⟨rfl,t2⟩;replace t2:Hid _:=hidS t2)
      |(go_at_call 139;(with_reducible refine (HCO.out _ _ k (TE.out.trans (t2.out.new _) fun _ _ z=>z.elim) (cell_of (Go.Mine.heap_alloc_new w2 _) 0 _ rfl)).mono ?_);rintro e w3 ⟨rfl,t3⟩;rw [HH.out];replace t3:Hid _:=hidS t3))
     go_roundg (gk - 1)
     case measure=>have:=G.out;have:=HNN.out;omega
     case rel=>exact ⟨j+1,by have:=G.out;have:=HNN.out;omega,by rw [HW.out],by rw [HS.out];exact MV.out _ ((t2.out.new _).trans t3.out fun _ _ z=>z)⟩
    |false=>
     rw [if_pos ⟨rfl,hh⟩]at hsw
     have HS:Hid _:=hidS hsw
     have HH:Hid (Ch.hasLn L k=false):=hh
     clear hsw hh
     go_wp2_with (first
      |(go_at_call 138;(with_reducible refine HNU.out.mono ?_);rintro e w2 ⟨rfl,t2⟩;replace t2:Hid _:=hidS t2)
      |(go_at_call 139;(with_reducible refine (HCO.out _ _ k (TE.out.trans (t2.out.new _) fun _ _ z=>z.elim) (cell_of (Go.Mine.heap_alloc_new w2 _) 0 _ rfl)).mono ?_);rintro e w3 ⟨rfl,t3⟩;rw [HH.out];obtain ⟨pq0,pq1⟩:=HPB.out w3 (TE.out.trans ((t2.out.new _).trans t3 fun _ _ z=>z) fun _ _ z=>z.elim);replace t3:Hid _:=hidS t3)
      |(go_at_call 38;(with_reducible refine (HRM.out _ x w1 _ (HOK.out j).1 (HOK.out j).2 (MV.out _ ((t2.out.new _).trans t3.out fun _ _ z=>z))).mono ?_);rintro e w4 ⟨⟨r4,rfl⟩,f4⟩;replace f4:Hid _:=hidS f4))
     go_roundg (gk - 1)
     case measure=>have:=G.out;have:=HNN.out;omega
     case rel=>exact ⟨j+1,by have:=G.out;have:=HNN.out;omega,by rw [HW.out],by rw [HS.out];exact f4.out⟩
  ·have hj : j = nn := by have := G.out; have := HNN.out; omega
   have hF:=F.out
   rw [hj,HNN.out.1,List.take_length]at hF
   have FF:Hid _:=hidS (FIN.out w1 wr N1.out.2 hF)
   clear hF hj
   go_wp2
   rw [HZ.out]
   exact FF.out
end Go.Proofs.YtofcogekgcgjhaaGreatDoor
