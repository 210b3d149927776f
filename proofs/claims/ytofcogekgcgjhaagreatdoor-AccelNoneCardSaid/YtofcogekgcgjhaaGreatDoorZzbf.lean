/- Packed. -/
import Derived.Test.YtofcogekgcgjhaaGreatDoorZzbe
import Derived.Test.YtofcogekgcgjhaaGreatDoorZzbd
import Derived.Deep.RegionHeld3
import Derived.Deep.AppendSrc
set_option linter.unusedVariables false
set_option linter.unusedSimpArgs false
set_option maxRecDepth 100000
namespace Go.Proofs.YtofcogekgcgjhaaGreatDoor
open Go.RowKit Go.Mine Go.Mine.Ac
/-! ### The disk,its blocks in a set -/
def FsTo (w:World) (S:Nat→Prop) (d:Nat) (D' : Dk) (w' : World):Prop:=
 ∃ S',FsIs w' S' d D'∧(∀ b,S' b→S b∨w.heap.size≤b)∧(∀ b,S' b→b<w'.heap.size)∧Turned S w w'
theorem FsTo.of {w w' : World} {rl:Nat→Nat} {S:Nat→Prop} {d:Nat} {D' : Dk} (h:FsPost w rl d D' w') (hS:∀ b,rl b≠0→S b):FsTo w S d D' w':=by
 obtain ⟨rl',ms',mf',pv',F',h1,h2,h3⟩:=h
 exact ⟨fun b=>rl' b≠0,⟨rl',ms',mf',pv',F',h1,fun b hb=>hb⟩,fun b hb=>(h2 b hb).imp (hS b) id,h1.bnd,h3.mono fun b _ hb=>hS b hb⟩
theorem FsTo.next {w w1 w2:World} {S S1:Nat→Prop} {d:Nat} {D2:Dk} (h:FsTo w1 S1 d D2 w2) (h1:∀ b,S1 b→S b∨w.heap.size≤b) (t:Turned S w w1):FsTo w S d D2 w2:=by
 obtain ⟨S2,a,b,c,e⟩:=h
 exact ⟨S2,a,fun x hx=>(b x hx).elim (h1 x) fun q=>.inr (Nat.le_trans t.size q),c,t.comp e fun i hi q=>q.elim id fun q=>(h1 i q).elim id fun z=>by omega⟩
theorem FsTo.after {w w1 w2:World} {S:Nat→Prop} {d:Nat} {D2:Dk} (h:FsTo w1 S d D2 w2) (t:Turned S w w1):FsTo w S d D2 w2:=h.next (fun b hb=>.inl hb) t
theorem FsTo.stay {w:World} {S:Nat→Prop} {d:Nat} {D:Dk} (h:FsIs w S d D) (hb:∀ b,S b→b<w.heap.size):FsTo w S d D w:=⟨S,h,fun b q=>.inl q,hb,Turned.refl _ _⟩
theorem fsAppend {w:World} {S:Nat→Prop} {d:Nat} {D:Dk} (h:FsIs w S d D) (hok:D.Ok) (name text:ByteArray) (htx:text.size≤1099511627776) :
  Calls Tryz.prog 34 #[pt d,.string name,.string text] w fun e w'=>e = .returned (.int .i64 ((D.append name text).2:Nat))∧FsTo w S d (D.append name text).1 w':=by
 obtain ⟨rl,ms,mf,pv,F,h1,h2⟩:=h
 exact (fappend_any h1 hok name text htx).mono fun e w' ⟨a,b⟩=>⟨a,FsTo.of b h2⟩
theorem fsSync {w:World} {S:Nat→Prop} {d:Nat} {D:Dk} (h:FsIs w S d D) (hok:D.Ok) (name:ByteArray) :
  Calls Tryz.prog 155 #[pt d,.string name] w fun e w'=>e = .returned (.int .i64 ((D.sync name).2:Nat))∧FsTo w S d (D.sync name).1 w':=by
 obtain ⟨rl,ms,mf,pv,F,h1,h2⟩:=h
 exact (fsync_any h1 hok name).mono fun e w' ⟨a,b⟩=>⟨a,FsTo.of b h2⟩
theorem fsSyncNames {w:World} {S:Nat→Prop} {d:Nat} {D:Dk} (h:FsIs w S d D) (hok:D.Ok) :
  Calls Tryz.prog 74 #[pt d] w fun e w'=>e = .returned (.int .i64 (D.syncNames.2:Nat))∧FsTo w S d D.syncNames.1 w':=by
 obtain ⟨rl,ms,mf,pv,F,h1,h2⟩:=h
 exact (fsyncNames_any h1 hok).mono fun e w' ⟨a,b⟩=>⟨a,FsTo.of b h2⟩
/-! ### A store with another cell -/
theorem TreesAt.keep {w w' : World} {T:Nat→Prop} {rl:Nat→Nat} {tv:Value} {l:List (List Ent)} (h:TreesAt w rl tv l) (ht:Turned T w w') (hT:∀ b,rl b=2∨rl b=4→¬ T b):TreesAt w' rl tv l:=by
 obtain ⟨tvs,h1,h2⟩:=h
 refine ⟨tvs,h1.turned ht fun b hb=>hT b (.inl hb),fun i t hi=>?_⟩
 obtain ⟨a,cap,h3,h4⟩:=h2 i t hi
 exact ⟨a,cap,h3,h4.turned ht fun b hb=>hT b (.inr hb)⟩
theorem CommitsAt.keep {w w' : World} {T:Nat→Prop} {rl:Nat→Nat} {tv:Value} {l:List Cm} (h:CommitsAt w rl tv l) (ht:Turned T w w') (hT:∀ b,rl b=3∨rl b=4→¬ T b):CommitsAt w' rl tv l:=by
 obtain ⟨tvs,h1,h2⟩:=h
 refine ⟨tvs,h1.turned ht fun b hb=>hT b (.inl hb),fun i t hi=>?_⟩
 obtain ⟨a,cap,h3,h4,h5⟩:=h2 i t hi
 exact ⟨a,cap,h3,h4,h5.turned ht fun b hb=>hT b (.inr hb)⟩
theorem StAt.setDead {T:TypeId} {w:World} {rs:Nat→Nat} {p:Nat} {dv tv cv:Value} {s:St} (h:StAt T w rs p dv tv cv s) (B:Bool):StAt T (w.setCell ⟨p,3,none⟩ (.bool B)) rs p dv tv cv { s with dead:=B }:=by
 have t:Turned (· = p) w (w.setCell ⟨p,3,none⟩ (.bool B)):=Turned.setCell (S:=(· = p)) (p:=⟨p,3,none⟩) rfl _
 have r1:=h.r1
 refine ⟨h.r1,?_,h.trees.keep t fun b hb q=>?_,h.commits.keep t fun b hb q=>?_,fun b hb=>by rw [setCell_size];exact h.bnd b hb⟩
 ·have := Go.Mine.heap_setCell_same h.blk (o := 3) (.bool B)
  simpa [Blk] using this
 ·rw [q,r1]at hb;omega
 ·rw [q,r1]at hb;omega
/-! ### What write does,in plain -/
theorem writeS_dies {D D1:Dk} {s:St} {kind k:Nat} {body:ByteArray} (h:D.append logB (toldF ⟨kind,body⟩)=(D1,k)) (hk:k≠0):writeS D s kind body=(D1,{ s with dead:=decide (k=8) },k):=by
 unfold writeS
 rw [h]
 cases k with
 |zero=>exact absurd rfl hk
 |succ k=>rfl
theorem writeS_goes {D D1 D2:Dk} {s:St} {kind k:Nat} {body:ByteArray} (h:D.append logB (toldF ⟨kind,body⟩)=(D1,0)) (h2:D1.sync logB=(D2,k)):writeS D s kind body=(D2,{ s with dead:=decide (k=8) },k):=by
 unfold writeS
 rw [h]
 show (match D1.sync logB with|(d2,e)=>(d2,({ s with dead:=decide (e=8) }:St),e))=_
 rw [h2]
/-! ### write's closures -/
theorem w153_any {w:World} {b0 b1 p d:Nat} {text:ByteArray} {k:Nat} {Q:World→Prop} (x0:w.cell? ⟨b0,0,none⟩=some (pt p)) (x1:w.cell? ⟨b1,0,none⟩=some (.string text)) (hp:w.cell? ⟨p,0,none⟩=some (pt d))
  (hc:∀ W,Turned (fun _=>False) w W→Calls Tryz.prog 34 #[pt d,.string ⟨#[108,111,103]⟩,.string text] W fun e w'=>e = .returned (.int .i64 (k:Nat))∧Q w') :
  Calls Tryz.prog 153 #[pt b0,pt b1] w fun e w'=>e = .returned (.int .i64 (k:Nat))∧Q w':=by
 have l0:=lt_of_cell x0
 have l1:=lt_of_cell x1
 have lp:=lt_of_cell hp
 go_enter Tryz.func153,Tryz.ntmps153
 have HC:Hid _:=hidS hc
 clear hc
 go_wp2
 go_region_with (go_at_call 34;(with_reducible refine (HC.out _ (Turned.drew _ _)).mono ?_);rintro e w' ⟨rfl,q⟩;replace q:Hid _:=hidS q)
 all_goals go_wp2
 all_goals go_ret
 all_goals exact ⟨rfl,q.out⟩
theorem w154_any {w:World} {b0 p d:Nat} {k:Nat} {Q:World→Prop} (x0:w.cell? ⟨b0,0,none⟩=some (pt p)) (hp:w.cell? ⟨p,0,none⟩=some (pt d))
  (hc:Calls Tryz.prog 155 #[pt d,.string ⟨#[108,111,103]⟩] w fun e w'=>e = .returned (.int .i64 (k:Nat))∧Q w') :
  Calls Tryz.prog 154 #[pt b0] w fun e w'=>e = .returned (.int .i64 (k:Nat))∧Q w':=by
 have l0:=lt_of_cell x0
 have lp:=lt_of_cell hp
 go_enter Tryz.func154,Tryz.ntmps154
 go_wp2_with (go_at_call 155;(with_reducible refine hc.mono ?_);rintro e w' ⟨rfl,q⟩;replace q:Hid _:=hidS q)
 go_ret
 exact ⟨rfl,q.out⟩
theorem wfirst_any {w W:World} {SD:Nat→Prop} {d p:Nat} {D:Dk} {rs:Nat→Nat} {tv cv:Value} {s:St} (hD:FsIs w SD d D) (hok:D.Ok) (h:StAt 140 w rs p (pt d) tv cv s) (hdis:∀ b,SD b→rs b=0) (hbd:∀ b,SD b→b<w.heap.size)
  (T0:Turned (fun _=>False) w W) {b0 b1 g:Nat} (l0:w.heap.size≤b0) (lg:w.heap.size≤g) {kind:Nat} {body:ByteArray} (hsz:(toldF ⟨kind,body⟩).size≤1099511627776)
  (x0:W.heap[b0]? = some (.cells #[pt p] 34)) (x1:W.heap[b1]? = some (.cells #[.string (toldF ⟨kind,body⟩)] 9))
  (hg:W.heap[g]? = some (.cells #[.func (.func 153) #[] #[pt b0,pt b1],.func (.func 154) #[] #[pt b0]] 137)) :
  Calls Tryz.prog 72 #[.slice (some ⟨g,0,none⟩) 2 2] W fun e w'=>e = .returned (.int .i64 ((writeS D s kind body).2.2:Nat))∧FsTo W SD d (writeS D s kind body).1 w':=by
 have hDW:FsIs W SD d D:=hD.turned T0 fun _ _ q=>q
 have hStW:StAt 140 W rs p (pt d) tv cv s:=h.turned T0 fun _ _ q=>q
 have cp:W.cell? ⟨p,0,none⟩=some (pt d):=cell_of hStW.blk 0 _ rfl
 have y0:W.cell? ⟨b0,0,none⟩=some (pt p):=cell_of x0 0 _ rfl
 have y1:W.cell? ⟨b1,0,none⟩=some (.string (toldF ⟨kind,body⟩)):=cell_of x1 0 _ rfl
 have hA:=fun W2 (q:Turned (fun _=>False) W W2)=>(fsAppend (hDW.turned q fun _ _ z=>z) hok logB (toldF ⟨kind,body⟩) hsz).mono fun e w' (z:_∧_)=>(⟨z.1,z.2.after (q.mono fun _ _ y=>y.elim)⟩:_∧FsTo W SD d (D.append logB (toldF ⟨kind,body⟩)).1 w')
 have hoA:=hok.appendOk logB (toldF ⟨kind,body⟩)
 have TS:Turned SD w W:=T0.mono fun _ _ q=>q.elim
 obtain ⟨D1,k1,hap⟩:∃ D1 k1,D.append logB (toldF ⟨kind,body⟩)=(D1,k1):=⟨_,_,rfl⟩
 rw [hap]at hA hoA
 dsimp only at hA hoA
 by_cases hk:k1=0
 ·subst hk
  obtain ⟨D2,k2,hsy⟩:∃ D2 k2,D1.sync logB=(D2,k2):=⟨_,_,rfl⟩
  rw [writeS_goes hap hsy]
  refine first153_goes hg (T:=SD) (Q1:=fun w1=>FsTo W SD d D1 w1) (fun q=>by have:=hbd _ q;omega) ((w153_any y0 y1 cp hA).mono fun e w' ⟨a,b⟩=>⟨a,b,?_⟩) fun w1 q1 t1=>?_
  ·obtain ⟨_, _, _, _, t⟩ := b
   exact t
  ·obtain ⟨S1, g1, g2, g3, g4⟩ := q1
   have hs:=fsSync g1 hoA logB
   rw [hsy]at hs
   refine (w154_any (cell_of (boxed x0 t1 fun q=>by have:=hbd _ q;omega) 0 _ rfl) (cell_of (boxed hStW.blk t1 fun q=>by have:=hdis _ q;have:=h.r1;omega) 0 _ rfl) hs).mono fun e w' ⟨a,b⟩=>⟨a,?_⟩
   exact b.next g2 t1
 ·rw [writeS_dies hap hk]
  exact (first153_dies hg hk (w153_any y0 y1 cp hA)).mono fun e w' ⟨a,b⟩=>⟨a,b⟩
def WrTo (w:World) (SD:Nat→Prop) (d p:Nat) (rs:Nat→Nat) (tv cv:Value) (D' : Dk) (s' : St) (w' : World):Prop:=
 ∃ SD',FsIs w' SD' d D'∧(∀ b,SD' b→SD b∨w.heap.size≤b)∧(∀ b,SD' b→b<w'.heap.size)∧StAt 140 w' rs p (pt d) tv cv s'∧Turned (fun b=>SD b∨b=p) w w'
theorem FsTo.dead {w w1:World} {SD:Nat→Prop} {d p:Nat} {D D' : Dk} {rs:Nat→Nat} {tv cv:Value} {s:St} (h:StAt 140 w rs p (pt d) tv cv s) (hdis:∀ b,SD b→rs b=0) (q:FsTo w SD d D' w1) (B:Bool) :
  WrTo w SD d p rs tv cv D' { s with dead:=B } (w1.setCell ⟨p,3,none⟩ (.bool B)):=by
 obtain ⟨S1,g1,g2,g3,g4⟩:=q
 have t:Turned (· = p) w1 (w1.setCell ⟨p,3,none⟩ (.bool B)):=Turned.setCell (S:=(· = p)) (p:=⟨p,3,none⟩) rfl _
 have r1:=h.r1
 have hp:=h.bnd p (by omega)
 have hst:StAt 140 w1 rs p (pt d) tv cv s:=h.turned g4 fun b hb z=>hb (hdis b z)
 refine ⟨S1,g1.turned t fun b hb z=>?_,g2,fun b hb=>by rw [setCell_size];exact g3 b hb,hst.setDead B,g4.comp t fun i hi z=>z.elim .inl .inr⟩
 rcases g2 b hb with z2|z2
 ·have:=hdis _ z2;rw [z,r1]at this;omega
 ·omega
set_option maxHeartbeats 1000000 in
theorem swrite_any {w:World} {SD:Nat→Prop} {d p:Nat} {D:Dk} {rs:Nat→Nat} {tv cv:Value} {s:St} (hD:FsIs w SD d D) (hok:D.Ok) (h:StAt 140 w rs p (pt d) tv cv s) (hdis:∀ b,SD b→rs b=0) (hbd:∀ b,SD b→b<w.heap.size)
  (kind:Nat) (body:ByteArray) (h1:1≤kind) (h2:kind≤255) (h3:body.size≤1048576) (hsz:(toldF ⟨kind,body⟩).size≤1099511627776) :
  Calls Tryz.prog 68 #[pt p,.int .i64 (kind:Nat),.string body] w fun e w'=>e = .returned (.int .i64 ((writeS D s kind body).2.2:Nat))∧WrTo w SD d p rs tv cv (writeS D s kind body).1 (writeS D s kind body).2.1 w':=by
 have hE:=fun W=>fencode_any ⟨kind,body⟩ W h1 h2 h3
 unfold FePost at hE
 have HF:Hid (∀ (W:World),Turned (fun _=>False) w W→∀ b0 b1 g,w.heap.size≤b0→w.heap.size≤g→W.heap[b0]? = some (.cells #[pt p] 34)→W.heap[b1]? = some (.cells #[.string (toldF ⟨kind,body⟩)] 9)→W.heap[g]? = some (.cells #[.func (.func 153) #[] #[pt b0,pt b1],.func (.func 154) #[] #[pt b0]] 137) →
   Calls Tryz.prog 72 #[.slice (some ⟨g,0,none⟩) 2 2] W fun e w'=>e = .returned (.int .i64 ((writeS D s kind body).2.2:Nat))∧FsTo W SD d (writeS D s kind body).1 w'):=fun W T0 b0 b1 g l0 lg x0 x1 hg=>wfirst_any hD hok h hdis hbd T0 l0 lg hsz x0 x1 hg
 have hst:(writeS D s kind body).2.1={ s with dead:=decide ((writeS D s kind body).2.2=8) }:=by
  unfold writeS
  generalize D.append logB (toldF ⟨kind,body⟩)=r
  obtain ⟨D1,k⟩:=r
  cases k with
  |zero=>rfl
  |succ k=>rfl
 rw [hst]
 generalize (writeS D s kind body).2.2=K at *
 generalize (writeS D s kind body).1=D' at *
 have HT:Hid (∀ w1,FsTo w SD d D' w1→WrTo w SD d p rs tv cv D' { s with dead:=decide (K=8) } (w1.setCell ⟨p,3,none⟩ (.bool (decide (K=8))))):=fun w1 q=>q.dead (D:=D) h hdis _
 have HB:Hid (∀ b,SD b→b<w.heap.size):=hbd
 have HP:Hid (∀ w1,FsTo w SD d D' w1→w1.frozen? ⟨p,3,none⟩=false∧p<w1.heap.size∧∃ u,w1.cell? ⟨p,3,none⟩=some u):=fun w1 q=>by
  obtain ⟨S1,g1,g2,g3,g4⟩:=q
  have:=(h.turned g4 fun b hb z=>hb (hdis b z)).blk
  exact ⟨free_of this 3,lt_of_block this,_,cell_of this 3 _ rfl⟩
 have hk8:((K:Int) == 8)=decide (K=8):=by
  by_cases q:K=8
  ·subst q;rfl
  ·rw [decide_eq_false q];simp;omega
 generalize decide (K=8)=B at *
 have hlp:=lt_of_block h.blk
 generalize toldF ⟨kind,body⟩=text at *
 have HF2:Hid (∀ w1,Turned (fun _=>False) (w.alloc (.cells #[pt p] 34)) w1→Calls Tryz.prog 72 #[.slice (some ⟨w1.heap.size+1,0,none⟩) 2 2] ((w1.alloc (.cells #[.string text] 9)).alloc (.cells #[.func (.func 153) #[] #[pt w.heap.size,pt w1.heap.size],.func (.func 154) #[] #[pt w.heap.size]] 137)) fun e w'=>e = .returned (.int .i64 (K:Nat))∧FsTo w SD d D' w'∧w'.cell? ⟨w.heap.size,0,none⟩=some (pt p)∧w.heap.size<w'.heap.size):=fun w1 t1=>by
  obtain ⟨t0,x0⟩:=one_box (w:=w) (.cells #[pt p] 34)
  obtain ⟨t2,x1,x2⟩:=two_boxes (w:=w1) (.cells #[.string text] 9) (.cells #[.func (.func 153) #[] #[pt w.heap.size,pt w1.heap.size],.func (.func 154) #[] #[pt w.heap.size]] 137)
  have t3:=t0.trans t1 fun _ _ q=>q
  have hs:=t3.size
  have xb:=boxed x0 (t1.trans t2 fun _ _ q=>q) id
  refine (HF.out _ (t3.trans t2 fun _ _ q=>q) _ _ _ (Nat.le_refl _) (by omega) xb x1 x2).mono fun e w' ⟨a,b⟩=>⟨a,b.after ((t3.trans t2 fun _ _ q=>q).mono fun _ _ q=>q.elim),?_⟩
  obtain ⟨_,_,_,_,t⟩:=b
  have xc:=boxed xb t fun q=>by have:=HB.out _ q;omega
  exact ⟨cell_of xc 0 _ rfl,lt_of_block xc⟩
 clear hD hok h hdis hbd h1 h2 h3 hsz hst HF
 go_enter Tryz.func68,Tryz.ntmps68
 go_wp2_with (first
  |(go_at_call 152;(with_reducible refine (hE _).mono ?_);rintro e w1 ⟨rfl,t1⟩;have hf:=HF2.out w1 t1;replace t1:Hid _:=hidS t1)
  |(go_at_call 72;(with_reducible refine hf.mono ?_);rintro e w2 ⟨rfl,q,d1,d2⟩;obtain ⟨c1,c2,u,c3⟩:=HP.out w2 q;replace q:Hid _:=hidS q;clear hf))
 all_goals go_ret
 all_goals exact ⟨rfl,HT.out _ q.out⟩
set_option maxHeartbeats 1000000 in
theorem sknown_any {w:World} {rs:Nat→Nat} {p:Nat} {dv tv cv:Value} {s:St} (h:StAt 140 w rs p dv tv cv s) {S:Nat→Prop} {a:Option Addr} {cap:Nat} {c:Cm} (hi:Ints w S a cap c.par) :
  Calls Tryz.prog 71 #[pt p,cmv a cap c] w fun e w'=>e = .returned (.bool (knownS s c))∧Turned (fun _=>False) w w':=by
 obtain ⟨r,hr⟩:∃ r,r=knownS s c:=⟨_,rfl⟩
 have HR:Hid (r=knownS s c):=hr
 rw [←hr]
 obtain ⟨t0,t1,t2⟩:=two_boxes (w:=w) (.cells #[pt p] 34) (.cells #[.slice a c.par.length cap,.int .i64 c.tree] 55)
 have HK:Hid (∀ W,Turned (fun _=>False) ((w.alloc (.cells #[pt p] 34)).alloc (.cells #[.slice a c.par.length cap,.int .i64 c.tree] 55)) W→Calls Tryz.prog 157 #[.slice a c.par.length cap,.func (.func 158) #[] #[pt w.heap.size]] W fun e w'=>e = .returned (.bool (highI c.par s.commits.length))∧Turned (fun _=>False) ((w.alloc (.cells #[pt p] 34)).alloc (.cells #[.slice a c.par.length cap,.int .i64 c.tree] 55)) w'):=fun W q=>
  (kcontains_any ⟨boxed t1 q id,h.turned (t0.trans q fun _ _ z=>z) fun _ _ z=>z⟩ (hi.turned (t0.trans q fun _ _ z=>z) fun _ _ z=>z)).mono fun e w' ⟨x,y⟩=>⟨x,q.trans y fun _ _ z=>z⟩
 have T0:Hid (Turned (fun _=>False) w ((w.alloc (.cells #[pt p] 34)).alloc (.cells #[.slice a c.par.length cap,.int .i64 c.tree] 55))):=t0
 obtain ⟨tvs,hs,-⟩:=h.trees
 obtain ⟨ta,tcap,rfl,-,-⟩:=hs.value
 have hlp:=lt_of_block h.blk
 have c2:w.cell? ⟨p,1,none⟩=some (.slice ta s.trees.length tcap):=cell_of h.blk 1 _ rfl
 have hlt:=lt_of_block h.blk
 have hk:=known_eq s c
 rw [←hr]at hk
 replace hk:Hid _:=hidS hk
 obtain ⟨par,tree⟩:=c
 unfold cmv
 dsimp only at HK T0 hk t1 t2 ⊢
 clear h hs hi hr t0 t1 t2
 generalize s.trees.length=L at *
 generalize s.commits.length=M at *
 generalize par.length=N at *
 have hsz:((w.alloc (.cells #[pt p] 34)).alloc (.cells #[.slice a N cap,.int .i64 tree] 55)).heap.size=w.heap.size+2:=by simp
 obtain ⟨V,hV⟩:∃ V,V=(w.alloc (.cells #[pt p] 34)).alloc (.cells #[.slice a N cap,.int .i64 tree] 55):=⟨_,rfl⟩
 have KC:Hid (∀ W,Turned (fun _=>False) V W→W.cell? ⟨w.heap.size,0,none⟩=some (pt p)∧W.cell? ⟨w.heap.size+1,0,none⟩=some (.slice a N cap)∧W.cell? ⟨w.heap.size+1,1,none⟩=some (.int .i64 tree)∧W.cell? ⟨p,1,none⟩=some (.slice ta L tcap)):=hidS fun W q=>by
  obtain ⟨u0,u1,u2⟩:=two_boxes (w:=w) (.cells #[pt p] 34) (.cells #[.slice a N cap,.int .i64 tree] 55)
  rw [hV]at q
  have v1:=boxed u1 q id
  have v2:=boxed u2 q id
  exact ⟨cell_of v1 0 _ rfl,cell_of v2 0 _ rfl,cell_of v2 1 _ rfl,cell_at c2 (u0.trans q fun _ _ z=>z) id⟩
 have HZ:Hid (V.heap.size=w.heap.size+2):=hidS (by rw [hV];exact hsz)
 rw [←hV]at HK T0
 have HVV:Hid (V=(w.alloc (.cells #[pt p] 34)).alloc (.cells #[.slice a N cap,.int .i64 tree] 55)):=hV
 clear hsz hV
 by_cases hx:tree<(L:Int)
 ·have e1 : decide (tree < (L : Int)) = true := decide_eq_true hx
  rw [e1,Bool.true_and]at hk
  clear hx
  go_enter Tryz.func71,Tryz.ntmps71
  go_wp2_with fail
  rw [←HVV.out]
  have V0:Turned (fun _=>False) V V.drew:=Turned.drew _ _
  go_region_held3 (fun W=>W.cell? ⟨w.heap.size,0,none⟩=some (pt p)∧W.cell? ⟨w.heap.size+1,0,none⟩=some (.slice a N cap)∧W.cell? ⟨w.heap.size+1,1,none⟩=some (.int .i64 tree)∧W.cell? ⟨p,1,none⟩=some (.slice ta L tcap))
   (first|(exact KC.out _ (by assumption))|go_keep)
   (first|(go_at_call 157;(with_reducible refine (HK.out _ V0).mono ?_);rintro e w2 ⟨rfl,V1⟩))
  go_wp2
  go_ret
  exact ⟨by rw [hk.out];rfl,T0.out.trans V1 fun _ _ q=>q⟩
 ·have e1 : decide (tree < (L : Int)) = false := decide_eq_false hx
  rw [e1,Bool.false_and]at hk
  clear hx HK
  go_enter Tryz.func71,Tryz.ntmps71
  go_wp2_with fail
  go_region
  go_wp2
  go_ret
  exact ⟨by rw [hk.out];rfl,by rw [←HVV.out];exact T0.out.draw⟩
/-! ### Plain -/
theorem encT_err {t:List Ent} {k:Nat} (h:encT t = .error k):k≠0:=by
 unfold encT at h
 split at h
 ·cases h;decide
 ·split at h
  ·cases h
  ·rename_i q;cases h;exact q
theorem encT_ok {t:List Ent} {b:ByteArray} (h:encT t = .ok b):TreeOk t∧b=bya (toldT t):=by
 unfold encT at h
 split at h
 ·cases h
 ·split at h
  ·rename_i q1 q2;cases h;exact ⟨⟨by omega,q2⟩,rfl⟩
  ·cases h
theorem encC_err {c:Cm} {k:Nat} (h:encC c = .error k):k≠0:=by
 unfold encC at h
 split at h
 ·cases h
 ·rename_i q;cases h;exact q
theorem encC_ok {c:Cm} {b:ByteArray} (h:encC c = .ok b):checkC c=0∧b=bya (toldC c):=by
 unfold encC at h
 split at h
 ·rename_i q;cases h;exact ⟨q,rfl⟩
 ·cases h
theorem bya_size (l:List UInt8):(bya l).size=l.length:=by simp [bya,ByteArray.size]
theorem encT_size {t:List Ent} {b:ByteArray} (h:encT t = .ok b):b.size≤267266:=by
 obtain ⟨h1,rfl⟩:=encT_ok h
 rw [bya_size];exact toldT_len h1
theorem encC_size {c:Cm} {b:ByteArray} (h:encC c = .ok b):b.size≤1000:=by
 obtain ⟨h1,rfl⟩:=encC_ok h
 rw [bya_size]
 unfold toldC
 obtain ⟨h2,-,-⟩:=checkC_ok h1
 have:∀ l:List Int,(l.flatMap fun p=>num p.toNat 4).length=4 * l.length:=fun l=>by
  induction l with
  |nil=>rfl
  |cons x l ih=>rw [List.flatMap_cons,List.length_append,ih,num_length,List.length_cons];omega
 rw [List.length_append,List.length_append,num_length,num_length,this]
 omega
theorem toldF_size (k:Nat) (b:ByteArray):(toldF ⟨k,b⟩).size=b.size+9:=by
 rw [toldF_eq]
 have:∀ l:List UInt8,(⟨l.toArray⟩:ByteArray).size=l.length:=bya_size
 rw [this,List.length_append,num_length]
 unfold frB
 rw [List.length_append,List.length_append,num_length,num_length,bsize]
 dsimp only
 omega
/-! ### What is left -/
def AdTo (w:World) (SD:Nat→Prop) (rs:Nat→Nat) (d p:Nat) (D' : Dk) (s' : St) (w' : World):Prop:=
 ∃ SD' rs' tv' cv',FsIs w' SD' d D'∧(∀ b,SD' b→SD b∨w.heap.size≤b)∧(∀ b,SD' b→b<w'.heap.size)∧StAt 140 w' rs' p (pt d) tv' cv' s'∧(∀ b,rs' b≠0→rs b≠0∨w.heap.size≤b)∧(∀ b,SD' b→rs' b=0)∧Turned (fun b=>SD b∨rs b≠0) w w'
theorem WrTo.after {w w1 w' : World} {SD:Nat→Prop} {d p:Nat} {rs:Nat→Nat} {tv cv:Value} {D' : Dk} {s' : St} (h:WrTo w1 SD d p rs tv cv D' s' w') (t:Turned (fun _=>False) w w1):WrTo w SD d p rs tv cv D' s' w':=by
 obtain ⟨S1,g1,g2,g3,g4,g5⟩:=h
 exact ⟨S1,g1,fun b hb=>(g2 b hb).imp id fun q=>Nat.le_trans t.size q,g3,g4,t.comp g5 fun i _ q=>q.elim False.elim id⟩
theorem WrTo.ad {w w' : World} {SD:Nat→Prop} {d p:Nat} {rs:Nat→Nat} {tv cv:Value} {D' : Dk} {s' : St} (h:WrTo w SD d p rs tv cv D' s' w') (hdis:∀ b,SD b→rs b=0) (hbs:∀ b,rs b≠0→b<w.heap.size):AdTo w SD rs d p D' s' w':=by
 obtain ⟨S1,g1,g2,g3,g4,g5⟩:=h
 refine ⟨S1,rs,tv,cv,g1,g2,g3,g4,fun b hb=>.inl hb,fun b hb=>?_,g5.mono fun i _ q=>q.imp id fun q=>by rw [q,g4.r1];decide⟩
 rcases g2 b hb with q|q
 ·exact hdis b q
 ·apply Classical.byContradiction
  intro z
  have:=hbs b z
  omega
theorem AdTo.stay {w w' : World} {SD:Nat→Prop} {d p:Nat} {rs:Nat→Nat} {tv cv:Value} {D:Dk} {s:St} (hD:FsIs w SD d D) (h:StAt 140 w rs p (pt d) tv cv s) (hdis:∀ b,SD b→rs b=0) (hbd:∀ b,SD b→b<w.heap.size) (t:Turned (fun _=>False) w w'):AdTo w SD rs d p D s w':=
 ⟨SD,rs,tv,cv,hD.turned t fun _ _ q=>q,fun b hb=>.inl hb,fun b hb=>Nat.lt_of_lt_of_le (hbd b hb) t.size,h.turned t fun _ _ q=>q,fun b hb=>.inl hb,hdis,t.mono fun _ _ q=>q.elim⟩
theorem AdTo.draw {w w' : World} {SD:Nat→Prop} {d p:Nat} {rs:Nat→Nat} {D:Dk} {s:St} (h:AdTo w SD rs d p D s w'):AdTo w SD rs d p D s w'.drew:=by
 obtain ⟨SD',rs',tv',cv',a,b,c,e,f,g,i⟩:=h
 exact ⟨SD',rs',tv',cv',a.turned (Turned.drew (fun _=>False) _) fun _ _ q=>q,b,c,e.turned (Turned.drew (fun _=>False) _) fun _ _ q=>q,f,g,i.draw⟩
/-! ### A tree is laid in -/
theorem info65:(Tryz.prog.info? 65).map (fun i=>(i.zero,i.size,i.bytes))=some (some (.slice none 0 0),1,24):=by kernel_rfl
theorem tree_done {w w2 w3 W3 w4:World} {SD:Nat→Prop} {rs:Nat→Nat} {d p:Nat} {D' : Dk} {tv cv v v' : Value} {tvs:List Value} {s:St} {t:List Ent}
  (hw:WrTo w SD d p rs tv cv D' s w2) (hdis:∀ b,SD b→rs b=0) (hbs:∀ b,rs b≠0→b<w.heap.size)
  (hl:∀ x∈t,x.2<4294967296) (hts:Sl w2 (fun b=>rs b=2) 65 1 tv tvs s.trees.length) (htr:∀ (i:Nat) (t:List Ent),s.trees[i]? = some t→∃ a cap,tvs[i]? = some (.slice a t.length cap)∧Ents w2 (fun b=>rs b=4) a cap t)
  (t3:Turned (fun _=>False) w2 w3) (hv:Sl w3 (fun b=>w2.heap.size≤b) 96 2 v (ecells t) t.length) (t3' : Turned (fun _=>False) w3 W3)
  (t4:Turned (fun b=>rs b=2) W3 w4) (hs:Sl w4 (More (fun b=>rs b=2) W3) 65 1 v' (tvs ++ [v]) (s.trees.length+1)) :
  AdTo w SD rs d p D' { s with trees:=s.trees ++ [t] } (w4.setCell ⟨p,1,none⟩ v'):=by
 obtain ⟨S1,g1,g2,g3,g4,g5⟩:=hw
 have hd1:∀ b,S1 b→rs b=0:=fun b hb=>by
  rcases g2 b hb with q|q
  ·exact hdis b q
  ·apply Classical.byContradiction
   intro z
   have:=hbs b z
   omega
 have s2:=g5.size
 have s3:=t3.size
 have s3':=t3'.size
 have s4:=t4.size
 have r1:=g4.r1
 have hp2:=g4.bnd p (by omega)
 have T3:Turned (fun _=>False) w2 W3:=t3.trans t3' fun _ _ q=>q
 have T4:Turned (fun b=>rs b=2) w2 w4:=T3.comp t4 fun i _ q=>q.elim False.elim id
 have ts:Turned (· = p) w4 (w4.setCell ⟨p,1,none⟩ v'):=Turned.setCell (S:=(· = p)) (p:=⟨p,1,none⟩) rfl _
 have T5:Turned (fun b=>rs b=2∨b=p) w2 (w4.setCell ⟨p,1,none⟩ v'):=T4.comp ts fun i _ q=>q
 have hsz:(w4.setCell ⟨p,1,none⟩ v').heap.size=w4.heap.size:=setCell_size _ _ _
 obtain ⟨rs',hrs⟩:∃ rs' : Nat→Nat,rs'=fun b=>if b<w2.heap.size then rs b else if b<w3.heap.size then 4 else if b<W3.heap.size then 0 else if b<w4.heap.size then 2 else 0:=⟨_,rfl⟩
 have r_old:∀ b,b<w2.heap.size→rs' b=rs b:=fun b hb=>by rw [hrs];simp only [if_pos hb]
 have r_cl:∀ b,w2.heap.size≤b→b<w3.heap.size→rs' b=4:=fun b h1 h2=>by rw [hrs];simp only;rw [if_neg (by omega),if_pos h2]
 have r_new:∀ b,W3.heap.size≤b→b<w4.heap.size→rs' b=2:=fun b h1 h2=>by rw [hrs];simp only;rw [if_neg (by omega),if_neg (by omega),if_neg (by omega),if_pos h2]
 have r_bnd:∀ b,rs' b≠0→b<w4.heap.size:=fun b hb=>by
  rw [hrs]at hb;simp only at hb
  split at hb
  ·omega
  ·split at hb
   ·omega
   ·split at hb
    ·omega
    ·split at hb
     ·assumption
     ·exact absurd rfl hb
 have r_keep:∀ b,rs b≠0→rs' b=rs b:=fun b hb=>r_old b (by have:=g4.bnd b hb;omega)
 refine ⟨S1,rs',v',cv,g1.turned T5 fun b hb q=>?_,g2,fun b hb=>by rw [hsz];have:=g3 b hb;omega,⟨by rw [r_keep p (by omega),r1],?_,?_,?_,fun b hb=>by rw [hsz];exact r_bnd b hb⟩,fun b hb=>?_,fun b hb=>by rw [r_old b (g3 b hb)];exact hd1 b hb,g5.comp T5 fun i hi q=>?_⟩
 ·have := hd1 b hb
  rcases q with q|q
  ·omega
  ·rw [q]at this;omega
 ·have h4 : w4.heap[p]? = w2.heap[p]? := T4.block p hp2 (by omega)
  have hb:=h4.trans g4.blk
  have:=Go.Mine.heap_setCell_same hb (o:=1) v'
  simpa [Blk] using this
 ·refine ⟨tvs ++ [v], ?_, fun i u hi => ?_⟩
  ·have := (hs.turned ts fun b hb q => by
    rcases hb with hb|hb
    ·rw [q,r1]at hb;omega
    ·omega)
   rw [List.length_append]
   refine sl_widenB this fun b hb q=>?_
   rw [hsz]at hb
   rcases q with q|q
   ·rw [r_keep b (by omega)];exact q
   ·exact r_new b q hb
  ·rw [List.getElem?_append] at hi
   have hlen:tvs.length=s.trees.length:=by have:=hts.1;omega
   split at hi
   ·rename_i q
    obtain ⟨a,cap,e1,e2⟩:=htr i u hi
    refine ⟨a,cap,by rw [List.getElem?_append_left (by omega)];exact e1,(e2.turned T5 fun b hb z=>?_).mono fun b hb=>by rw [r_keep b (by omega)];exact hb⟩
    rcases z with z|z
    ·omega
    ·rw [z,r1]at hb;omega
   ·rename_i q
    obtain ⟨a,cap,hva,he⟩:=sl_ents (sl_widenB hv (T:=fun b=>w2.heap.size≤b∧b<w3.heap.size) fun b h1 h2=>⟨h2,h1⟩) hl
    have h0:i - s.trees.length=0:=by
     have:=(List.getElem?_eq_some_iff.1 hi).1
     simpa using this
    rw [h0]at hi
    obtain rfl:t=u:=by simpa using hi
    refine ⟨a,cap,by rw [List.getElem?_append_right (by omega),show i - tvs.length=0 by omega,hva];rfl,((he.turned t3' fun _ _ z=>z).turned (t4.comp ts fun i _ q=>q) fun b hb z=>?_).mono fun b hb=>r_cl b hb.1 hb.2⟩
    rcases z with z|z
    ·have:=g4.bnd b (by omega);omega
    ·omega
 ·refine CommitsAt.roles (g4.commits.keep T5 fun b hb z => ?_) fun b hb => r_keep b hb
  rcases z with z|z
  ·omega
  ·rw [z,r1]at hb;omega
 ·by_cases q : b < w2.heap.size
  ·rw [r_old b q] at hb
   exact .inl hb
  ·exact .inr (by omega)
 ·rcases q with q | q | q
  ·exact q.imp id fun q=>by rw [q];omega
  ·exact .inr (by omega)
  ·exact .inr (by rw [q];omega)
def AtPost (w:World) (SD:Nat→Prop) (rs:Nat→Nat) (d p:Nat) (r:Dk×St×Int×Nat) (e:Ending) (w' : World):Prop:=
 e = .returned (.tuple #[.int .i64 r.2.2.1,.int .i64 (r.2.2.2:Nat)])∧AdTo w SD rs d p r.1 r.2.1 w'
theorem addTree_err {D:Dk} {s:St} {t:List Ent} {k:Nat} (h1:s.dead=false) (h:encT t = .error k):addTree D s t=(D,s,0,k):=by unfold addTree;rw [h1,h];rfl
theorem addTree_dead {D:Dk} {s:St} {t:List Ent} (h1:s.dead=true):addTree D s t=(D,s,0,8):=by unfold addTree;rw [h1];rfl
theorem addTree_full {D:Dk} {s:St} {t:List Ent} {b:ByteArray} (h1:s.dead=false) (h:encT t = .ok b) (h2:65536≤s.trees.length):addTree D s t=(D,s,0,7):=by
 unfold addTree;rw [h1,h];simp only [Bool.false_eq_true,if_false];rw [if_pos h2]
theorem addTree_bad {D D1:Dk} {s s1:St} {t:List Ent} {b:ByteArray} {k:Nat} (h1:s.dead=false) (h:encT t = .ok b) (h2:¬ 65536≤s.trees.length) (h3:writeS D s 1 b=(D1,s1,k)) (hk:k≠0):addTree D s t=(D1,s1,0,k):=by
 unfold addTree;rw [h1,h];simp only [Bool.false_eq_true,if_false];rw [if_neg h2,h3]
 cases k with
 |zero=>exact absurd rfl hk
 |succ k=>rfl
theorem addTree_good {D D1:Dk} {s s1:St} {t:List Ent} {b:ByteArray} (h1:s.dead=false) (h:encT t = .ok b) (h2:¬ 65536≤s.trees.length) (h3:writeS D s 1 b=(D1,s1,0)):addTree D s t=(D1,{ s1 with trees:=s1.trees ++ [t] },((s1.trees.length:Nat):Int),0):=by
 unfold addTree;rw [h1,h];simp only [Bool.false_eq_true,if_false];rw [if_neg h2,h3];rfl
theorem writeS_trees (D:Dk) (s:St) (k:Nat) (b:ByteArray):(writeS D s k b).2.1.trees=s.trees∧(writeS D s k b).2.1.commits=s.commits:=by
 unfold writeS
 generalize D.append logB (toldF ⟨k,b⟩)=r
 obtain ⟨D1,k⟩:=r
 cases k with
 |zero=>exact ⟨rfl,rfl⟩
 |succ k=>exact ⟨rfl,rfl⟩
set_option maxHeartbeats 1000000 in
theorem saddTree_any {w:World} {SD S:Nat→Prop} {d p:Nat} {D:Dk} {rs:Nat→Nat} {tv cv:Value} {s:St} {a:Option Addr} {cap:Nat} {t:List Ent} (hD:FsIs w SD d D) (hok:D.Ok) (h:StAt 140 w rs p (pt d) tv cv s) (hdis:∀ b,SD b→rs b=0) (hbd:∀ b,SD b→b<w.heap.size)
  (hi:Ents w S a cap t) (hS:∀ b,S b→¬ SD b∧rs b=0) (htl:t.length≤1000000000) :
  Calls Tryz.prog 21 #[pt p,.slice a t.length cap] w (AtPost w SD rs d p (addTree D s t)):=by
 obtain ⟨Z,hZ⟩:∃ Z,Z=AtPost w SD rs d p (addTree D s t):=⟨_,rfl⟩
 have HZ:Hid (Z=AtPost w SD rs d p (addTree D s t)):=hZ
 rw [←hZ]
 have hop:=sopen_any h
 have c1:w.cell? ⟨p,1,none⟩=some tv:=cell_of h.blk 1 _ rfl
 have hlp:=lt_of_block h.blk
 have STAY:Hid (∀ w',Turned (fun _=>False) w w'→AdTo w SD rs d p D s w'):=fun w' q=>AdTo.stay hD h hdis hbd q
 cases hdead:s.dead with
 |true=>
  have HC:Hid (addTree D s t=(D,s,0,8)):=addTree_dead hdead
  rw [hdead]at hop
  clear hD h hZ hi hdead
  go_enter Tryz.func21,Tryz.ntmps21
  go_wp2_with (go_at_call 66;(with_reducible refine hop.mono ?_);rintro e w1 ⟨rfl,rfl⟩)
  rw [HZ.out]
  exact ⟨by rw [HC.out];rfl,by rw [HC.out];exact STAY.out _ (Turned.refl _ _)⟩
 |false=>
  rw [hdead]at hop
  have hen:=tencode_any w hi htl
  unfold TePost at hen
  cases he:encT t with
  |error k=>
   have HC:Hid (addTree D s t=(D,s,0,k)):=addTree_err hdead he
   rw [he]at hen
   have hk:=encT_err he
   have e3:((k:Int) == 0)=false:=by simp;omega
   have e4:((k:Int) != 0)=true:=by simp;omega
   unfold exV at hen
   dsimp only at hen
   clear hD h hZ hi hdead he hk
   go_enter Tryz.func21,Tryz.ntmps21
   go_wp2_with (first|(go_at_call 66;(with_reducible refine hop.mono ?_);rintro e w1 ⟨rfl,rfl⟩)|(go_at_call 67;(with_reducible refine hen.mono ?_);rintro e w1 ⟨rfl,q⟩;replace q:Hid _:=hidS q))
   rw [HZ.out]
   exact ⟨by rw [HC.out];rfl,by rw [HC.out];exact STAY.out _ q.out⟩
  |ok body=>
   rw [he]at hen
   unfold exV at hen
   dsimp only at hen
   obtain ⟨tvs,hts,htr⟩:=h.trees
   obtain ⟨ta,tcap,rfl,-,-⟩:=hts.value
   obtain ⟨n,hn⟩:∃ n,n=s.trees.length:=⟨_,rfl⟩
   by_cases hfull:65536≤n
   ·have HC : Hid (addTree D s t = (D, s, 0, 7)) := addTree_full hdead he (by rw [← hn]; exact hfull)
    rw [←hn]at c1
    have d1:decide ((65536:Int)≤(n:Int))=true:=by simp;omega
    have d2:decide (65536≤n)=true:=by simp;omega
    have C1:Hid (∀ W,Turned (fun _=>False) w W→W.cell? ⟨p,1,none⟩=some (.slice ta n tcap)∧p<W.heap.size):=fun W q=>⟨cell_at c1 q id,Nat.lt_of_lt_of_le hlp q.size⟩
    clear hD h hZ hi hdead he hts htr hfull htl hS hok hdis hbd hn
    go_enter Tryz.func21,Tryz.ntmps21
    go_wp2_with (first|(go_at_call 66;(with_reducible refine hop.mono ?_);rintro e w1 ⟨rfl,rfl⟩)|(go_at_call 67;(with_reducible refine hen.mono ?_);rintro e w1 ⟨rfl,q⟩;obtain ⟨k1,k2⟩:=C1.out _ q;replace q:Hid _:=hidS q))
    rw [HZ.out]
    exact ⟨by rw [HC.out];rfl,by rw [HC.out];exact STAY.out _ q.out⟩
   ·have hb := encT_size he
    obtain ⟨D1,s1,K,hwr⟩:∃ D1 s1 K,writeS D s 1 body=(D1,s1,K):=⟨_,_,_,rfl⟩
    have hst:=writeS_trees D s 1 body
    have HW:Hid (∀ w1,Turned (fun _=>False) w w1→Calls Tryz.prog 68 #[pt p,.int .i64 1,.string body] w1 fun e w'=>e = .returned (.int .i64 (K:Nat))∧WrTo w SD d p rs (.slice ta n tcap) cv D1 s1 w'):=fun w1 q=>by
     have:=swrite_any (hD.turned q fun _ _ z=>z) hok (h.turned q fun _ _ z=>z) hdis (fun b hb=>Nat.lt_of_lt_of_le (hbd b hb) q.size) 1 body (by omega) (by omega) (by omega) (by rw [toldF_size];omega)
     rw [hwr]at this
     exact this.mono fun e w' ⟨x,y⟩=>⟨x,by rw [hn];exact y.after q⟩
    rw [hwr]at hst
    obtain ⟨hst1,hst2⟩:=hst
    dsimp only at hst1 hst2
    rw [←hn]at c1
    have d1:decide ((65536:Int)≤(n:Int))=false:=by simp;omega
    have d2:decide (65536≤n)=false:=by simp;omega
    have C1:Hid (∀ W,Turned (fun _=>False) w W→W.cell? ⟨p,1,none⟩=some (.slice ta n tcap)∧p<W.heap.size):=fun W q=>⟨cell_at c1 q id,Nat.lt_of_lt_of_le hlp q.size⟩
    by_cases hK:K=0
    ·subst hK
     have HC:Hid (addTree D s t=(D1,{ s1 with trees:=s1.trees ++ [t] },((s1.trees.length:Nat):Int),0)):=addTree_good hdead he (by rw [←hn];exact hfull) hwr
     have hn1:s1.trees.length=n:=by rw [hst1,hn]
     have HN:Hid (s1.trees.length=n):=hn1
     have HX:Hid (∀ w2,WrTo w SD d p rs (.slice ta n tcap) cv D1 s1 w2→Turned (fun b=>SD b∨b=p) w w2∧w2.cell? ⟨p,1,none⟩=some (.slice ta n tcap)∧p<w2.heap.size):=fun w2 q=>by
      obtain ⟨S1,g1,g2,g3,g4,g5⟩:=q
      exact ⟨g5,cell_of g4.blk 1 _ rfl,lt_of_block g4.blk⟩
     have hpp:=h.r1
     have hSp:∀ b,S b→¬ (SD b∨b=p):=fun b hb q=>q.elim (hS b hb).1 fun q=>by have:=(hS b hb).2;rw [q,hpp]at this;omega
     have hSl:∀ {w2},Turned (fun b=>SD b∨b=p) w w2→Sl w2 (fun b=>rs b=2) 65 1 (.slice ta n tcap) tvs n:=fun q=>by
      rw [hn]
      refine hts.turned q fun b hb z=>?_
      rcases z with z|z
      ·have:=hdis b z;omega
      ·rw [z,hpp]at hb;omega
     have HCL:Hid (∀ w2 W,Turned (fun b=>SD b∨b=p) w w2→Turned (fun _=>False) w2 W→Calls Tryz.prog 69 #[.slice a t.length cap] W fun e w'=>∃ v,e = .returned v∧Sl w' (fun b=>w2.heap.size≤b) 96 2 v (ecells t) t.length∧Turned (fun _=>False) w2 w'):=fun w2 W q2 q=>by
      have he2:Ents W S a cap t:=(hi.turned q2 hSp).turned q fun _ _ z=>z
      refine (clone_ents (a:=a) (n:=t.length) (cap:=cap) (xs:=ecells t) W (fun w' z=>ents_src (he2.turned z fun _ _ y=>y)) (fun z=>by subst z;exact ents_nil he2) htl).mono fun e w' ⟨v,x1,x2,x3⟩=>⟨v,x1,x2.widen fun b hb=>Nat.le_trans q.size hb,q.trans x3 fun _ _ z=>z⟩
     have HSL:Hid (∀ w2 W,Turned (fun b=>SD b∨b=p) w w2→Turned (fun _=>False) w2 W→Sl W (fun b=>rs b=2) 65 1 (.slice ta n tcap) tvs n):=fun w2 W q2 q=>(hSl q2).turned q fun _ _ z=>z
     have HP4:Hid (∀ w2 w3 w4,Turned (fun b=>SD b∨b=p) w w2→Turned (fun _=>False) w2 w3→Turned (fun b=>rs b=2) w3 w4→WrTo w SD d p rs (.slice ta n tcap) cv D1 s1 w2→w4.cell? ⟨p,1,none⟩=some (.slice ta n tcap)∧w4.frozen? ⟨p,1,none⟩=false∧p<w4.heap.size):=fun w2 w3 w4 q2 q3 q4 z=>by
      obtain ⟨S1,g1,g2,g3,g4,g5⟩:=z
      have hb:=boxed (boxed g4.blk q3 id) q4 (by rw [hpp];decide)
      exact ⟨cell_of hb 1 _ rfl,free_of hb 1,lt_of_block hb⟩
     have DONE:Hid (∀ w2 w3 W3 w4 v v',WrTo w SD d p rs (.slice ta n tcap) cv D1 s1 w2→Turned (fun _=>False) w2 w3→Sl w3 (fun b=>w2.heap.size≤b) 96 2 v (ecells t) t.length→Turned (fun _=>False) w3 W3→Turned (fun b=>rs b=2) W3 w4→Sl w4 (More (fun b=>rs b=2) W3) 65 1 v' (tvs ++ [v]) (n+1) →
       AdTo w SD rs d p D1 { s1 with trees:=s1.trees ++ [t] } (w4.setCell ⟨p,1,none⟩ v')):=fun w2 w3 W3 w4 v v' q1 q2 q3 q4 q5 q6=>by
      have hT:Turned (fun b=>SD b∨b=p) w w2:=by obtain ⟨_,_,_,_,_,z⟩:=q1;exact z
      refine tree_done q1 hdis h.bnd hi.2.2.1 (by rw [hn1];exact hSl hT) (fun i u hu=>?_) q2 q3 q4 q5 (by rw [hn1];exact q6)
      rw [hst1]at hu
      obtain ⟨a',cap',e1,e2⟩:=htr i u hu
      refine ⟨a',cap',e1,e2.turned hT fun b hb z=>?_⟩
      rcases z with z|z
      ·have:=hdis b z;omega
      ·rw [z,hpp]at hb;omega
     have m1:Hid (n+1≤maxLen∧(n+1) * 24≤140737488355328):=hidS ⟨by simp only [maxLen];omega,by omega⟩
     have HWW:Hid (wrap64 ((n:Nat):Int)=(n:Int)):=hidS (by simp only [wrap64];omega)
     clear hD h hZ hi hdead he hts htr hfull hb hst1 hst2 hwr htl hS hok hdis hbd hn hn1 hSp hSl hpp
     go_enter Tryz.func21,Tryz.ntmps21
     go_wp2_with (first|(go_at_call 66;(with_reducible refine hop.mono ?_);rintro e w1 ⟨rfl,rfl⟩)|(go_at_call 67;(with_reducible refine hen.mono ?_);rintro e w1 ⟨rfl,q⟩;obtain ⟨k1,k2⟩:=C1.out _ q;replace q:Hid _:=hidS q)|(go_at_call 68;(with_reducible refine (HW.out _ q.out).mono ?_);rintro e w2 ⟨rfl,z⟩;obtain ⟨x1,x2,x3⟩:=HX.out _ z;replace x1:Hid _:=hidS x1;replace z:Hid _:=hidS z;clear k1 k2 hlp c1))
     go_region_law ((first|(go_simp;go_at_call 69;(first|(with_reducible refine (HCL.out _ _ x1.out (Turned.refl _ _)).mono ?_)|(with_reducible refine (HCL.out _ _ x1.out (Turned.drew _ _)).mono ?_));rintro e w3 ⟨v,rfl,hsl,ht⟩;obtain ⟨ca,cc,rfl,-,-⟩:=hsl.value;obtain ⟨y1,y2,y3⟩:=HP4.out w2 w3 w3 x1.out ht (Turned.refl _ _) z.out;have Y:Hid (Sl w3 (fun b=>w2.heap.size≤b) 96 2 (.slice ca t.length cc) (ecells t) t.length∧Turned (fun _=>False) w2 w3):=⟨hsl,ht⟩;clear hsl ht)|(refine step_append (by rfl) _ _ 75 75 (by rfl) (HSL.out w2 _ x1.out (Y.out.2.new _)) Tryz.underlying75 info65 rfl (by decide) (by rfl) (.slice (some ⟨w3.heap.size,0,none⟩) 1 1) (by rfl) (src_new 65 Tryz.underlying75 [.slice ca t.length cc] (by simp [Value.oneCell']) w3) m1.out.1 m1.out.2 ?_;intro v' w4 hsl4 ht4;obtain ⟨a4,c4,rfl,-,-⟩:=hsl4.value;obtain ⟨y4,y5,y6⟩:=HP4.out w2 _ w4 x1.out (Y.out.2.new _) ht4 z.out;have Y4:Hid _:=hidS (DONE.out w2 w3 _ w4 _ _ z.out Y.out.2 Y.out.1 (Turned.alloc _ _ _) ht4 hsl4);clear hsl4 ht4)))
     all_goals go_wp2
     all_goals rw [HZ.out]
     all_goals exact ⟨by rw [HC.out];dsimp only;rw [HN.out];exact congrArg (fun i:Int=>Ending.returned (.tuple #[.int .i64 i,.int .i64 0])) HWW.out,by rw [HC.out];exact Y4.out⟩
    ·have HC : Hid (addTree D s t = (D1, s1, 0, K)) := addTree_bad hdead he (by rw [← hn]; exact hfull) hwr hK
     have AD:Hid (∀ w',WrTo w SD d p rs (.slice ta n tcap) cv D1 s1 w'→AdTo w SD rs d p D1 s1 w'):=fun w' q=>q.ad hdis h.bnd
     have e3:((K:Int) == 0)=false:=by simp;omega
     have e4:((K:Int) != 0)=true:=by simp;omega
     clear hD h hZ hi hdead he hts htr hfull hb hst1 hst2 hwr htl hS hok hdis hbd hn hK
     go_enter Tryz.func21,Tryz.ntmps21
     go_wp2_with (first|(go_at_call 66;(with_reducible refine hop.mono ?_);rintro e w1 ⟨rfl,rfl⟩)|(go_at_call 67;(with_reducible refine hen.mono ?_);rintro e w1 ⟨rfl,q⟩;obtain ⟨k1,k2⟩:=C1.out _ q;replace q:Hid _:=hidS q)|(go_at_call 68;(with_reducible refine (HW.out _ q.out).mono ?_);rintro e w2 ⟨rfl,z⟩;replace z:Hid _:=hidS z))
     rw [HZ.out]
     exact ⟨by rw [HC.out];rfl,by rw [HC.out];exact AD.out _ z.out⟩
theorem info55:(Tryz.prog.info? 55).map (fun i=>(i.zero,i.size,i.bytes))=some (some (.agg #[.slice none 0 0,.int .i64 0]),2,32):=by kernel_rfl
theorem commit_done {w w2 w3 W3 w4:World} {SD:Nat→Prop} {rs:Nat→Nat} {d p:Nat} {D' : Dk} {tv cv v v' : Value} {tvs:List Value} {s:St} {c:Cm}
  (hw:WrTo w SD d p rs tv cv D' s w2) (hdis:∀ b,SD b→rs b=0) (hbs:∀ b,rs b≠0→b<w.heap.size)
  (hl:∀ x∈c.par,I64 x) (hts:Sl w2 (fun b=>rs b=3) 55 2 cv tvs s.commits.length) (htr:∀ (i:Nat) (c:Cm),s.commits[i]? = some c→∃ a cap,tvs[i * 2]? = some (.slice a c.par.length cap)∧tvs[i * 2+1]? = some (.int .i64 c.tree)∧Ints w2 (fun b=>rs b=4) a cap c.par)
  (t3:Turned (fun _=>False) w2 w3) (hv:Sl w3 (fun b=>w2.heap.size≤b) 3 1 v (ic c.par) c.par.length) (t3' : Turned (fun _=>False) w3 W3)
  (t4:Turned (fun b=>rs b=3) W3 w4) (hs:Sl w4 (More (fun b=>rs b=3) W3) 55 2 v' (tvs ++ [v,.int .i64 c.tree]) (s.commits.length+1)) :
  AdTo w SD rs d p D' { s with commits:=s.commits ++ [c] } (w4.setCell ⟨p,2,none⟩ v'):=by
 obtain ⟨S1,g1,g2,g3,g4,g5⟩:=hw
 have hd1:∀ b,S1 b→rs b=0:=fun b hb=>by
  rcases g2 b hb with q|q
  ·exact hdis b q
  ·apply Classical.byContradiction
   intro z
   have:=hbs b z
   omega
 have s2:=g5.size
 have s3:=t3.size
 have s3':=t3'.size
 have s4:=t4.size
 have r1:=g4.r1
 have hp2:=g4.bnd p (by omega)
 have T3:Turned (fun _=>False) w2 W3:=t3.trans t3' fun _ _ q=>q
 have T4:Turned (fun b=>rs b=3) w2 w4:=T3.comp t4 fun i _ q=>q.elim False.elim id
 have ts:Turned (· = p) w4 (w4.setCell ⟨p,2,none⟩ v'):=Turned.setCell (S:=(· = p)) (p:=⟨p,2,none⟩) rfl _
 have T5:Turned (fun b=>rs b=3∨b=p) w2 (w4.setCell ⟨p,2,none⟩ v'):=T4.comp ts fun i _ q=>q
 have hsz:(w4.setCell ⟨p,2,none⟩ v').heap.size=w4.heap.size:=setCell_size _ _ _
 obtain ⟨rs',hrs⟩:∃ rs' : Nat→Nat,rs'=fun b=>if b<w2.heap.size then rs b else if b<w3.heap.size then 4 else if b<W3.heap.size then 0 else if b<w4.heap.size then 3 else 0:=⟨_,rfl⟩
 have r_old:∀ b,b<w2.heap.size→rs' b=rs b:=fun b hb=>by rw [hrs];simp only [if_pos hb]
 have r_cl:∀ b,w2.heap.size≤b→b<w3.heap.size→rs' b=4:=fun b h1 h2=>by rw [hrs];simp only;rw [if_neg (by omega),if_pos h2]
 have r_new:∀ b,W3.heap.size≤b→b<w4.heap.size→rs' b=3:=fun b h1 h2=>by rw [hrs];simp only;rw [if_neg (by omega),if_neg (by omega),if_neg (by omega),if_pos h2]
 have r_bnd:∀ b,rs' b≠0→b<w4.heap.size:=fun b hb=>by
  rw [hrs]at hb;simp only at hb
  split at hb
  ·omega
  ·split at hb
   ·omega
   ·split at hb
    ·omega
    ·split at hb
     ·assumption
     ·exact absurd rfl hb
 have r_keep:∀ b,rs b≠0→rs' b=rs b:=fun b hb=>r_old b (by have:=g4.bnd b hb;omega)
 refine ⟨S1,rs',tv,v',g1.turned T5 fun b hb q=>?_,g2,fun b hb=>by rw [hsz];have:=g3 b hb;omega,⟨by rw [r_keep p (by omega),r1],?_,?_,?_,fun b hb=>by rw [hsz];exact r_bnd b hb⟩,fun b hb=>?_,fun b hb=>by rw [r_old b (g3 b hb)];exact hd1 b hb,g5.comp T5 fun i hi q=>?_⟩
 ·have := hd1 b hb
  rcases q with q|q
  ·omega
  ·rw [q]at this;omega
 ·have h4 : w4.heap[p]? = w2.heap[p]? := T4.block p hp2 (by omega)
  have hb:=h4.trans g4.blk
  have:=Go.Mine.heap_setCell_same hb (o:=2) v'
  simpa [Blk] using this
 ·refine TreesAt.roles (g4.trees.keep T5 fun b hb z => ?_) fun b hb => r_keep b hb
  rcases z with z|z
  ·omega
  ·rw [z,r1]at hb;omega
 ·refine ⟨tvs ++ [v, .int .i64 c.tree], ?_, fun i u hi => ?_⟩
  ·have := (hs.turned ts fun b hb q => by
    rcases hb with hb|hb
    ·rw [q,r1]at hb;omega
    ·omega)
   rw [List.length_append]
   refine sl_widenB this fun b hb q=>?_
   rw [hsz]at hb
   rcases q with q|q
   ·rw [r_keep b (by omega)];exact q
   ·exact r_new b q hb
  ·rw [List.getElem?_append] at hi
   have hlen:tvs.length=s.commits.length * 2:=hts.1
   split at hi
   ·rename_i q
    obtain ⟨a,cap,e1,e3,e2⟩:=htr i u hi
    refine ⟨a,cap,by rw [List.getElem?_append_left (by omega)];exact e1,by rw [List.getElem?_append_left (by omega)];exact e3,(e2.turned T5 fun b hb z=>?_).mono fun b hb=>by rw [r_keep b (by omega)];exact hb⟩
    rcases z with z|z
    ·omega
    ·rw [z,r1]at hb;omega
   ·rename_i q
    obtain ⟨a,cap,hva,he⟩:=sl_ic (sl_widenB hv (T:=fun b=>w2.heap.size≤b∧b<w3.heap.size) fun b h1 h2=>⟨h2,h1⟩) hl
    have h0:i - s.commits.length=0:=by
     have:=(List.getElem?_eq_some_iff.1 hi).1
     simpa using this
    rw [h0]at hi
    obtain rfl:c=u:=by simpa using hi
    refine ⟨a,cap,by rw [List.getElem?_append_right (by omega),show i * 2 - tvs.length=0 by omega,hva];rfl,by rw [List.getElem?_append_right (by omega),show i * 2+1 - tvs.length=1 by omega];rfl,((he.turned t3' fun _ _ z=>z).turned (t4.comp ts fun i _ q=>q) fun b hb z=>?_).mono fun b hb=>r_cl b hb.1 hb.2⟩
    rcases z with z|z
    ·have:=g4.bnd b (by omega);omega
    ·omega
 ·by_cases q : b < w2.heap.size
  ·rw [r_old b q] at hb
   exact .inl hb
  ·exact .inr (by omega)
 ·rcases q with q | q | q
  ·exact q.imp id fun q=>by rw [q];omega
  ·exact .inr (by omega)
  ·exact .inr (by rw [q];omega)
end Go.Proofs.YtofcogekgcgjhaaGreatDoor
