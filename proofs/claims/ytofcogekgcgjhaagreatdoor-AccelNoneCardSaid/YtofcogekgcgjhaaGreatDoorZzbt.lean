/- Packed. -/
import Derived.Test.YtofcogekgcgjhaaGreatDoorZzbr
import Derived.Test.YtofcogekgcgjhaaGreatDoorZzbs
set_option linter.unusedVariables false
set_option linter.unusedSimpArgs false
set_option maxRecDepth 100000
namespace Go.Proofs.YtofcogekgcgjhaaGreatDoor
open Go.RowKit Go.Mine Go.Mine.Ac
structure PW (w0 w:World) (S:Nat→Prop) (rs rx:Nat→Nat) (d q p:Nat) (D:Dk) (s:St) (x:Ix):Prop where
 disk:FsIs w S d D
 dok:D.Ok
 sb:∀ b,S b→w0.heap.size≤b∧b<w.heap.size
 st:∃ tv cv,StAt 140 w rs q (pt d) tv cv s
 good:StGood s
 ix:∃ lv gv,IxAt w rx p (pt d) lv gv x
 iok:IxOk x
 low:Ch.Low x.links
 b1:∀ b,rs b≠0→w0.heap.size≤b
 b2:∀ b,rx b≠0→w0.heap.size≤b
 d1:∀ b,S b→rs b=0∧rx b=0
 d2:∀ b,rs b≠0→rx b=0
 tw:Turned (fun _=>False) w0 w
def PwAt (w0 w:World) (O:Nat→Prop) (d q p:Nat) (D:Dk) (s:St) (x:Ix):Prop:=
 ∃ S rs rx,PW w0 w S rs rx d q p D s x∧∀ b,S b∨rs b≠0∨rx b≠0→O b
theorem PwAt.turned {w0 w w' : World} {O T:Nat→Prop} {d q p:Nat} {D:Dk} {s:St} {x:Ix} (h:PwAt w0 w O d q p D s x) (t:Turned T w w') (hT:∀ b,O b→¬ T b) (h0:∀ b,T b→w0.heap.size≤b):PwAt w0 w' O d q p D s x:=by
 obtain ⟨S,rs,rx,h,ho⟩:=h
 obtain ⟨tv,cv,h1⟩:=h.st
 obtain ⟨lv,gv,h2⟩:=h.ix
 exact ⟨S,rs,rx,⟨h.disk.turned t fun b z=>hT b (ho b (.inl z)),h.dok,fun b z=>⟨(h.sb b z).1,Nat.lt_of_lt_of_le (h.sb b z).2 t.size⟩,⟨tv,cv,h1.turned t fun b z=>hT b (ho b (.inr (.inl z)))⟩,h.good,⟨lv,gv,h2.turned t fun b z=>hT b (ho b (.inr (.inr z)))⟩,h.iok,h.low,h.b1,h.b2,h.d1,h.d2,
  h.tw.comp t fun i hi z=>z.elim id fun z=>by have:=h0 i z;omega⟩,ho⟩
theorem PwAt.still {w0 w w' : World} {O:Nat→Prop} {d q p:Nat} {D:Dk} {s:St} {x:Ix} (h:PwAt w0 w O d q p D s x) (t:Turned (fun _=>False) w w'):PwAt w0 w' O d q p D s x:=h.turned t (fun _ _ z=>z) fun _ z=>z.elim
abbrev Mre (O:Nat→Prop) (w:World):Nat→Prop:=fun b=>O b∨w.heap.size≤b
def PwTo (w0 w:World) (O:Nat→Prop) (d q p:Nat) (D:Dk) (s:St) (x:Ix) (w' : World):Prop:=PwAt w0 w' (Mre O w) d q p D s x∧Turned O w w'
theorem PwAt.new_le {w0 w:World} {O:Nat→Prop} {d q p:Nat} {D:Dk} {s:St} {x:Ix} (h:PwAt w0 w O d q p D s x):Turned (fun _=>False) w0 w:=by
 obtain ⟨S,rs,rx,h,ho⟩:=h
 exact h.tw
theorem AdTo.pw {w0 w w' : World} {O S:Nat→Prop} {rs rx:Nat→Nat} {d q p:Nat} {D D' : Dk} {s s' : St} {x:Ix} (h:PW w0 w S rs rx d q p D s x) (ho:∀ b,S b∨rs b≠0∨rx b≠0→O b) (a:AdTo w S rs d q D' s' w') (hok:D'.Ok) (hg:StGood s'):PwTo w0 w O d q p D' s' x w':=by
 obtain ⟨S',rs',tv',cv',a1,a2,a3,a4,a5,a6,a7⟩:=a
 obtain ⟨lv,gv,h2⟩:=h.ix
 have z0:=h.tw.size
 have hx:∀ b,rx b≠0→b<w.heap.size:=h2.bnd
 refine ⟨⟨S',rs',rx,⟨a1,hok,fun b z=>⟨?_,a3 b z⟩,⟨tv',cv',a4⟩,hg,⟨lv,gv,h2.turned a7 fun b z y=>?_⟩,h.iok,h.low,fun b z=>?_,h.b2,fun b z=>⟨a6 b z,?_⟩,fun b z=>?_,h.tw.comp a7 fun i hi z=>?_⟩,fun b z=>?_⟩,a7.mono fun b _ z=>ho b (z.imp id .inl)⟩
 ·rcases a2 b z with y | y
  ·exact (h.sb b y).1
  ·omega
 ·rcases y with y | y
  ·exact z (h.d1 b y).2
  ·exact z (h.d2 b y)
 ·rcases a5 b z with y | y
  ·exact h.b1 b y
  ·omega
 ·rcases a2 b z with y | y
  ·exact (h.d1 b y).2
  ·apply Classical.byContradiction
   intro k
   have:=hx b k
   omega
 ·rcases a5 b z with y | y
  ·exact h.d2 b y
  ·apply Classical.byContradiction
   intro k
   have:=hx b k
   omega
 ·rcases z with z | z | z
  ·exact z
  ·have:=(h.sb i z).1;omega
  ·have:=h.b1 i z;omega
 ·rcases z with z | z | z
  ·exact (a2 b z).imp (fun y=>ho b (.inl y)) id
  ·exact (a5 b z).imp (fun y=>ho b (.inr (.inl y))) id
  ·exact .inl (ho b (.inr (.inr z)))
theorem pw_addTree {w0 w:World} {O S0:Nat→Prop} {d q p:Nat} {D:Dk} {s:St} {x:Ix} {a:Option Addr} {cap:Nat} {t:List Ent} (h:PwAt w0 w O d q p D s x) (hi:Ents w S0 a cap t) (hS:∀ b,S0 b→¬ O b) (htl:t.length≤1000000000) :
  Calls Tryz.prog 21 #[pt q,.slice a t.length cap] w fun e w'=>e = .returned (.tuple #[.int .i64 (addTree D s t).2.2.1,.int .i64 ((addTree D s t).2.2.2:Nat)])∧PwTo w0 w O d q p (addTree D s t).1 (addTree D s t).2.1 x w':=by
 obtain ⟨S,rs,rx,h,ho⟩:=h
 obtain ⟨tv,cv,h1⟩:=h.st
 refine (saddTree_any h.disk h.dok h1 (fun b z=>(h.d1 b z).1) (fun b z=>(h.sb b z).2) hi (fun b z=>⟨fun y=>hS b z (ho b (.inl y)),?_⟩) htl).mono fun e w' ⟨x1,x2⟩=>⟨x1,x2.pw h ho (addTree_disk s t h.dok fun b=>writeS_ok h.dok s 1 b) (h.good.addTree hi.2.2.1)⟩
 apply Classical.byContradiction
 intro y
 exact hS b z (ho b (.inr (.inl y)))
theorem pw_addCommit {w0 w:World} {O S0:Nat→Prop} {d q p:Nat} {D:Dk} {s:St} {x:Ix} {a:Option Addr} {cap:Nat} {c:Cm} (h:PwAt w0 w O d q p D s x) (hi:Ints w S0 a cap c.par) (hS:∀ b,S0 b→¬ O b) (htl:c.par.length≤1000000000) :
  Calls Tryz.prog 22 #[pt q,cmv a cap c] w fun e w'=>e = .returned (.tuple #[.int .i64 (addCommit D s c).2.2.1,.int .i64 ((addCommit D s c).2.2.2:Nat)])∧PwTo w0 w O d q p (addCommit D s c).1 (addCommit D s c).2.1 x w':=by
 obtain ⟨S,rs,rx,h,ho⟩:=h
 obtain ⟨tv,cv,h1⟩:=h.st
 refine (saddCommit_any h.disk h.dok h1 (fun b z=>(h.d1 b z).1) (fun b z=>(h.sb b z).2) hi (fun b z=>⟨fun y=>hS b z (ho b (.inl y)),?_⟩) htl).mono fun e w' ⟨x1,x2⟩=>⟨x1,x2.pw h ho (addCommit_disk s c h.dok fun b=>writeS_ok h.dok s 2 b) h.good.addCommit⟩
 apply Classical.byContradiction
 intro y
 exact hS b z (ho b (.inr (.inl y)))
theorem LayPost.pw {w0 w w' : World} {O S:Nat→Prop} {rs rx:Nat→Nat} {d q p:Nat} {D:Dk} {s:St} {x:Ix} {r:Dk×Ix×Nat} {e:Ending} (h:PW w0 w S rs rx d q p D s x) (ho:∀ b,S b∨rs b≠0∨rx b≠0→O b) (a:LayPost w S (fun _=>False) rx d p r e w') (hok:r.1.Ok) (hio:IxOk r.2.1) (hlow:Ch.Low r.2.1.links):PwTo w0 w O d q p r.1 s r.2.1 w':=by
 obtain ⟨-,S',rx',lv',gv',a1,a2,a3,a4,a5,a6,a7⟩:=a
 obtain ⟨tv,cv,h1⟩:=h.st
 obtain ⟨lv,gv,h2⟩:=h.ix
 have z0:=h.tw.size
 have hs:∀ b,rs b≠0→b<w.heap.size:=h1.bnd
 have hp:rx p≠0:=by rw [h2.r1];decide
 refine ⟨⟨S',rs,rx',⟨a1,hok,fun b z=>⟨?_,a3 b z⟩,⟨tv,cv,h1.turned a7 fun b z y=>?_⟩,h.good,⟨lv',gv',a4⟩,hio,hlow,h.b1,fun b z=>?_,fun b z=>⟨?_,a6 b z⟩,fun b z=>?_,h.tw.comp a7 fun i hi z=>?_⟩,fun b z=>?_⟩,a7.mono fun b _ z=>ho b (z.elim .inl fun z=>.inr (.inr (z ▸ hp)))⟩
 ·rcases a2 b z with y | y
  ·exact (h.sb b y).1
  ·omega
 ·rcases y with y | y
  ·exact z (h.d1 b y).1
  ·rw [y]at z;exact hp (h.d2 p z)
 ·rcases a5 b z with y | y | y
  ·exact h.b2 b y
  ·exact y.elim
  ·omega
 ·rcases a2 b z with y | y
  ·exact (h.d1 b y).1
  ·apply Classical.byContradiction
   intro k
   have:=hs b k
   omega
 ·apply Classical.byContradiction
  intro k
  rcases a5 b k with y|y|y
  ·exact y (h.d2 b z)
  ·exact y.elim
  ·have:=hs b z;omega
 ·rcases z with z | z | z
  ·exact z
  ·have:=(h.sb i z).1;omega
  ·rw [z]at hi;have:=h.b2 p hp;omega
 ·rcases z with z | z | z
  ·exact (a2 b z).imp (fun y=>ho b (.inl y)) id
  ·exact .inl (ho b (.inr (.inl z)))
  ·rcases a5 b z with y | y | y
   ·exact .inl (ho b (.inr (.inr y)))
   ·exact y.elim
   ·exact .inr y
theorem pw_update {w0 w:World} {O:Nat→Prop} {d q p:Nat} {D:Dk} {s:St} {x:Ix} (h:PwAt w0 w O d q p D s x) (tab:∀ W,Turned (fun _=>False) w0 W→Ch.Tab W∧Ch.Errs W) (hf:Few D 800000000) (g:Stg) (hsd:g.seed<4294967296) (hk:(updateX D x s g).2.2=0) (hc:¬ (s.commits.length:Int)=x.len) (h8:¬ 8≤x.links.length) (hl:Ch.Low (updateX D x s g).2.1.links) :
  Calls Tryz.prog 18 #[pt p,.iface 34 (pt q),stgv g] w fun e w'=>e = .returned (.int .i64 ((updateX D x s g).2.2:Nat))∧PwTo w0 w O d q p (updateX D x s g).1 s (updateX D x s g).2.1 w':=by
 obtain ⟨S,rs,rx,h,ho⟩:=h
 obtain ⟨tv,cv,h1⟩:=h.st
 obtain ⟨lv,gv,h2⟩:=h.ix
 have hp:rx p≠0:=by rw [h2.r1];decide
 refine (xupdate_lays h.disk h.dok hf (fun b z=>(h.sb b z).2) h1 h.good h2 h.iok h.low (fun b z=>(h.d1 b z).2) g hsd hk hc h8 fun W t=>tab W (h.tw.comp t fun i hi z=>?_)).mono fun e w' y=>⟨y.1,y.pw h ho (updateX_few hf h.dok x s g).2.1 (updateX_ix h.iok s g) hl⟩
 rcases z with z|z|z
 ·exact z
 ·have:=(h.sb i z).1;omega
 ·rw [z]at hi;have:=h.b2 p hp;omega
/-! ### What a view tells -/
def A1 (w w' : World) (d Q:Nat):Prop:=FsIs w' (fun b=>w.heap.size≤b∧b<w'.heap.size) d ⟨Q,[],[],[],[],0,false⟩∧Turned (fun _=>False) w w'
theorem dk0_ok (Q:Nat) (h:Q≤16777216):(⟨Q,[],[],[],[],0,false⟩:Dk).Ok:=newDk_ok (q:=Q) (by unfold newDk;rw [if_neg (by omega)];rfl)
theorem dk1_ok (Q:Nat) (h:Q≤16777216):(dk1 Q emp).Ok:=by
 have:=(dk0_ok Q h).createOk logB
 have h2:((⟨Q,[],[],[],[],0,false⟩:Dk).create logB).1=⟨Q,[⟨emp,0⟩],[(logB,0)],[],[⟨emp,logB,0⟩],0,false⟩:=rfl
 rw [h2]at this
 exact this.syncNamesOk
theorem st_new (Q:Nat) (h:Q≤16777216) (w:World):Calls Tryz.prog 24 #[.int .i64 (Q:Nat)] w fun e w'=>∃ d,e = .returned (.tuple #[pt d,.int .i64 0])∧A1 w w' d Q:=
 (fnew_any (Q : Nat) w).mono fun e w' y => by
  have hn:newDk (Q:Nat)=some ⟨Q,[],[],[],[],0,false⟩:=by unfold newDk;rw [if_neg (by omega)];rfl
  rcases y with ⟨y,-,-⟩|⟨D,d,y,h1,h2,h3⟩
  ·rw [hn]at y;cases y
  ·rw [hn] at y
   obtain rfl:=Option.some.inj y
   exact ⟨d,h1,h2.widen fun b hb z=>⟨z,hb⟩,h3⟩
def A2 (w w' : World) (d r Q:Nat):Prop:=∃ S rs tv cv,FsIs w' S d (dk1 Q emp)∧(∀ b,S b→w.heap.size≤b∧b<w'.heap.size)∧StAt 140 w' rs r (pt d) tv cv noSt∧(∀ b,rs b≠0→w.heap.size≤b∧¬ S b)∧Turned (fun _=>False) w w'
theorem st_open {w w1:World} {d Q:Nat} (hQ:Q≤16777216) (h:A1 w w1 d Q):Calls Tryz.prog 25 #[pt d] w1 fun e w'=>∃ r,e = .returned (.tuple #[pt r,.int .i64 0])∧A2 w w' d r Q:=by
 obtain ⟨h1,h2⟩:=h
 refine (sopenNew_any h1 (dk0_ok Q hQ) (by simp) (by simp) (fun b hb=>hb.2) rfl).mono fun e w' y=>?_
 have z:=h2.size
 rw [open_new]at y
 obtain ⟨S,a1,a2,a3,a4,r,rs,tv,cv,a5,a6,a7⟩:=y
 refine ⟨r,a5,S,rs,tv,cv,a1,fun b hb=>⟨?_,a3 b hb⟩,a6,fun b hb=>⟨Nat.le_trans z (a7 b hb).1,(a7 b hb).2⟩,h2.comp a4 fun i hi y=>y.elim False.elim fun y=>by omega⟩
 rcases a2 b hb with y|y
 ·exact y.1
 ·omega
theorem PwAt.bound {w0 w:World} {O:Nat→Prop} {d q p:Nat} {D:Dk} {s:St} {x:Ix} (h:PwAt w0 w O d q p D s x):PwAt w0 w (fun b=>O b∧b<w.heap.size) d q p D s x:=by
 obtain ⟨S,rs,rx,h,ho⟩:=h
 refine ⟨S,rs,rx,h,fun b hb=>⟨ho b hb,?_⟩⟩
 obtain ⟨tv,cv,h1⟩:=h.st
 obtain ⟨lv,gv,h2⟩:=h.ix
 rcases hb with y|y|y
 ·exact (h.sb b y).2
 ·exact h1.bnd b y
 ·exact h2.bnd b y
def Sc (w W0 W:World) (K:Nat→Prop) (d q p:Nat) (D:Dk) (s:St) (x:Ix):Prop:=∃ O,PwAt w W O d q p D s x∧(∀ b,O b→b<W.heap.size)∧(∀ b,K b→¬ O b∧b<W0.heap.size)∧Turned (fun b=>¬ K b) W0 W
theorem Sc.still {w W0 W W' : World} {K:Nat→Prop} {d q p:Nat} {D:Dk} {s:St} {x:Ix} (h:Sc w W0 W K d q p D s x) (t:Turned (fun _=>False) W W'):Sc w W0 W' K d q p D s x:=by
 obtain ⟨O,h1,h2,h3,h4⟩:=h
 exact ⟨O,h1.still t,fun b hb=>Nat.lt_of_lt_of_le (h2 b hb) t.size,h3,h4.trans t fun _ _ z=>z.elim⟩
theorem Sc.to {w W0 W W' : World} {K O:Nat→Prop} {d q p:Nat} {D' : Dk} {s' : St} {x' : Ix} (h1:PwTo w W O d q p D' s' x' W') (h3:∀ b,K b→¬ O b∧b<W0.heap.size) (h4:Turned (fun b=>¬ K b) W0 W):Sc w W0 W' K d q p D' s' x':=by
 have z:=h4.size
 exact ⟨_,h1.1.bound,fun b hb=>hb.2,fun b hb=>⟨fun y=>y.1.elim (h3 b hb).1 fun y=>by have:=(h3 b hb).2;omega,(h3 b hb).2⟩,h4.trans h1.2 fun b _ z y=>(h3 b y).1 z⟩
theorem Sc.blk {w W0 W:World} {K:Nat→Prop} {d q p:Nat} {D:Dk} {s:St} {x:Ix} {b:Nat} {o:Obj} (h:Sc w W0 W K d q p D s x) (hb:W0.heap[b]? = some o) (hK:K b):W.heap[b]? = some o:=by
 obtain ⟨O,h1,h2,h3,h4⟩:=h
 exact (h4.block b (h3 b hK).2 fun z=>z hK).trans hb
theorem ints_zero {W:World} {b:Nat} (hb:W.heap[b]? = some (.cells #[.int .i64 0] 3)):Ints W (fun y=>y=b) (some ⟨b,0,none⟩) 1 c1.par:=by
 refine ⟨by decide,by simp [maxLen],fun x hx=>?_,fun _=>⟨_,_,rfl,rfl,lt_of_block hb,fun i x hx=>?_⟩⟩
 ·obtain rfl : x = 0 := by simpa [c1] using hx
  exact ⟨by decide,by decide⟩
 ·match i, hx with
  |0,hx=>
   obtain rfl:0=x:=by simpa [c1] using hx
   exact cell_of hb 0 _ rfl
  |i+1,hx=>simp [c1]at hx
def ix1 (n:Int) (sm:Nat) (g:Gr):Ix:=⟨[(0,n,sm)],[g]⟩
theorem dk1_few (Q:Nat) (L:ByteArray):Few (dk1 Q L) 800000000:=⟨by simp [dk1],by simp [dk1]⟩
theorem sc_update {w W0 W:World} {K:Nat→Prop} {d q p Q:Nat} {L:ByteArray} {s:St} (tab:∀ W,Turned (fun _=>False) w W→Ch.Tab W∧Ch.Errs W) (h:Sc w W0 W K d q p (dk1 Q L) s noIx) (h1:1≤s.commits.length) (h2:s.commits.length≤100) (hq:L.size+1066+95 * s.commits.length≤Q) :
  Calls Tryz.prog 18 #[pt p,.iface 34 (pt q),.agg #[.int .i64 3,.int .i64 10,.int .i64 9,.int .u32 0]] W fun e w'=>e = .returned (.int .i64 0)∧∃ T C sm,T=(encE (newG s usualG 0 [])).1∧C=(encL [(0,(s.commits.length:Int),sm)]).1∧sm=Crc.sum (nums T)∧T.size≤66+95 * s.commits.length∧C.size≤1000∧(encE (newG s usualG 0 [])).2=0∧(encL [(0,(s.commits.length:Int),sm)]).2=0∧Sc w W0 w' K d q p (dk3 Q L T C) s (ix1 s.commits.length sm (newG s usualG 0 [])):=by
 obtain ⟨O,g1,g2,g3,g4⟩:=h
 have hg:StGood s:=by obtain ⟨_,_,_,y,_⟩:=g1;exact y.good
 obtain ⟨T,C,sm,e1,e2,e3,e4,e5,e6,e7,e8⟩:=update_first hg h1 h2 hq
 have:=pw_update g1 tab (dk1_few Q L) usualG (by decide) (by rw [e8]) (by show ¬ (s.commits.length:Int)=0;omega) (by decide) (by rw [e8];intro y hy;simp only [List.mem_singleton]at hy;rw [hy];exact ⟨Int.le_refl 0,(by decide:(0:Int)<1073741824)⟩)
 rw [e8]at this
 exact this.mono fun e w' ⟨a,b⟩=>⟨a,T,C,sm,e1,e2,e3,e4,e5,e6,e7,Sc.to b g3 g4⟩
def SwAt (w0 w:World) (O:Nat→Prop) (d q:Nat) (D:Dk) (s:St):Prop:=
 ∃ S rs tv cv,FsIs w S d D∧D.Ok∧(∀ b,S b→w0.heap.size≤b∧b<w.heap.size)∧StAt 140 w rs q (pt d) tv cv s∧StGood s∧(∀ b,rs b≠0→w0.heap.size≤b∧¬ S b)∧(∀ b,S b∨rs b≠0→O b∧b<w.heap.size)∧Turned (fun _=>False) w0 w
theorem SwAt.still {w0 w w' : World} {O:Nat→Prop} {d q:Nat} {D:Dk} {s:St} (h:SwAt w0 w O d q D s) (t:Turned (fun _=>False) w w'):SwAt w0 w' O d q D s:=by
 obtain ⟨S,rs,tv,cv,h1,h2,h3,h4,h5,h6,h7,h8⟩:=h
 exact ⟨S,rs,tv,cv,h1.turned t fun _ _ z=>z,h2,fun b z=>⟨(h3 b z).1,Nat.lt_of_lt_of_le (h3 b z).2 t.size⟩,h4.turned t fun _ _ z=>z,h5,h6,fun b z=>⟨(h7 b z).1,Nat.lt_of_lt_of_le (h7 b z).2 t.size⟩,h8.trans t fun _ _ z=>z⟩
theorem AdTo.sw {w0 w w' : World} {S:Nat→Prop} {rs:Nat→Nat} {d q:Nat} {D' : Dk} {s' : St} (tw:Turned (fun _=>False) w0 w) (h3:∀ b,S b→w0.heap.size≤b∧b<w.heap.size) (h6:∀ b,rs b≠0→w0.heap.size≤b∧¬ S b) (a:AdTo w S rs d q D' s' w') (hok:D'.Ok) (hg:StGood s'):SwAt w0 w' (fun b=>S b∨rs b≠0∨w.heap.size≤b) d q D' s'∧Turned (fun b=>S b∨rs b≠0) w w':=by
 obtain ⟨S',rs',tv',cv',a1,a2,a3,a4,a5,a6,a7⟩:=a
 have z0:=tw.size
 refine ⟨⟨S',rs',tv',cv',a1,hok,fun b z=>⟨?_,a3 b z⟩,a4,hg,fun b z=>⟨?_,fun y=>z (a6 b y)⟩,fun b z=>⟨?_,?_⟩,tw.comp a7 fun i hi z=>?_⟩,a7⟩
 ·rcases a2 b z with y | y
  ·exact (h3 b y).1
  ·omega
 ·rcases a5 b z with y | y
  ·exact (h6 b y).1
  ·omega
 ·rcases z with z | z
  ·exact (a2 b z).imp id .inr
  ·exact .inr (a5 b z)
 ·rcases z with z | z
  ·exact a3 b z
  ·exact a4.bnd b z
 ·rcases z with z | z | z
  ·exact z
  ·have:=(h3 i z).1;omega
  ·have:=(h6 i z).1;omega
def Sx (w W:World) (d q:Nat) (D:Dk) (s:St):Prop:=∃ O,SwAt w W O d q D s
theorem Sx.still {w W W' : World} {d q:Nat} {D:Dk} {s:St} (h:Sx w W d q D s) (t:Turned (fun _=>False) W W'):Sx w W' d q D s:=h.imp fun _ y=>y.still t
theorem sx_addTree {w W W1:World} {S0:Nat→Prop} {d q:Nat} {D:Dk} {s:St} {a:Option Addr} {cap:Nat} {t:List Ent} (h:Sx w W d q D s) (tn:Turned (fun _=>False) W W1) (hi:Ents W1 S0 a cap t) (hS:∀ b,S0 b→W.heap.size≤b) (htl:t.length≤1000000000) :
  Calls Tryz.prog 21 #[pt q,.slice a t.length cap] W1 fun e w'=>e = .returned (.tuple #[.int .i64 (addTree D s t).2.2.1,.int .i64 ((addTree D s t).2.2.2:Nat)])∧Sx w w' d q (addTree D s t).1 (addTree D s t).2.1:=by
 obtain ⟨O,S,rs,tv,cv,h1,h2,h3,h4,h5,h6,h7,h8⟩:=h
 have g1:=h1.turned tn fun _ _ z=>z
 have g4:=h4.turned tn fun _ _ z=>z
 have z:=tn.size
 have g3:∀ b,S b→w.heap.size≤b∧b<W1.heap.size:=fun b y=>⟨(h3 b y).1,Nat.lt_of_lt_of_le (h3 b y).2 z⟩
 have h0:∀ b,S b→rs b=0:=fun b y=>by
  apply Classical.byContradiction
  intro k
  exact (h6 b k).2 y
 refine (saddTree_any g1 h2 g4 h0 (fun b y=>(g3 b y).2) hi (fun b y=>⟨fun k=>?_,?_⟩) htl).mono fun e w' ⟨x1,x2⟩=>⟨x1,_,(x2.sw (h8.trans tn fun _ _ z=>z) g3 h6 (addTree_disk s t h2 fun b=>writeS_ok h2 s 1 b) (h5.addTree hi.2.2.1)).1⟩
 ·have:=(h3 b k).2;have:=hS b y;omega
 ·apply Classical.byContradiction
  intro k
  have:=(h7 b (.inr k)).2;have:=hS b y;omega
theorem sx_addCommit {w W W1:World} {S0:Nat→Prop} {d q:Nat} {D:Dk} {s:St} {a:Option Addr} {cap:Nat} {c:Cm} (h:Sx w W d q D s) (tn:Turned (fun _=>False) W W1) (hi:Ints W1 S0 a cap c.par) (hS:∀ b,S0 b→W.heap.size≤b) (htl:c.par.length≤1000000000) :
  Calls Tryz.prog 22 #[pt q,cmv a cap c] W1 fun e w'=>e = .returned (.tuple #[.int .i64 (addCommit D s c).2.2.1,.int .i64 ((addCommit D s c).2.2.2:Nat)])∧Sx w w' d q (addCommit D s c).1 (addCommit D s c).2.1:=by
 obtain ⟨O,S,rs,tv,cv,h1,h2,h3,h4,h5,h6,h7,h8⟩:=h
 have g1:=h1.turned tn fun _ _ z=>z
 have g4:=h4.turned tn fun _ _ z=>z
 have z:=tn.size
 have g3:∀ b,S b→w.heap.size≤b∧b<W1.heap.size:=fun b y=>⟨(h3 b y).1,Nat.lt_of_lt_of_le (h3 b y).2 z⟩
 have h0:∀ b,S b→rs b=0:=fun b y=>by
  apply Classical.byContradiction
  intro k
  exact (h6 b k).2 y
 refine (saddCommit_any g1 h2 g4 h0 (fun b y=>(g3 b y).2) hi (fun b y=>⟨fun k=>?_,?_⟩) htl).mono fun e w' ⟨x1,x2⟩=>⟨x1,_,(x2.sw (h8.trans tn fun _ _ z=>z) g3 h6 (addCommit_disk s c h2 fun b=>writeS_ok h2 s 2 b) h5.addCommit).1⟩
 ·have:=(h3 b k).2;have:=hS b y;omega
 ·apply Classical.byContradiction
  intro k
  have:=(h7 b (.inr k)).2;have:=hS b y;omega
theorem A2.sx {w w' : World} {d r Q:Nat} (hQ:Q≤16777216) (h:A2 w w' d r Q):Sx w w' d r (dk1 Q emp) noSt:=by
 obtain ⟨S,rs,tv,cv,a1,a2,a3,a4,a5⟩:=h
 exact ⟨fun b=>S b∨rs b≠0,S,rs,tv,cv,a1,dk1_ok Q hQ,a2,a3,noSt_good,a4,fun b z=>⟨z,z.elim (fun y=>(a2 b y).2) fun y=>a3.bnd b y⟩,a5⟩
theorem sx_tree {w W:World} {d q Q:Nat} (hQ:1000≤Q) (h:Sx w W d q (dk1 Q emp) noSt) :
  Calls Tryz.prog 21 #[pt q,.slice (some ⟨W.heap.size,0,none⟩) 1 1] (W.alloc (.cells #[.string ⟨#[97]⟩,.int .u32 1] 96)) fun e w'=>e = .returned (.tuple #[.int .i64 0,.int .i64 0])∧Sx w w' d q (dk1 Q L1) sA:=by
 obtain ⟨tA,xA⟩:=one_box (w:=W) (.cells #[.string ⟨#[97]⟩,.int .u32 1] 96)
 have hi:Ents (W.alloc (.cells #[.string ⟨#[97]⟩,.int .u32 1] 96)) (fun b=>b=W.heap.size) (some ⟨W.heap.size,0,none⟩) 1 t1:=by
  refine ⟨by decide,by simp [maxLen],t1_ok,fun _=>⟨_,_,rfl,rfl,lt_of_block xA,fun i y hy=>?_⟩⟩
  match i,hy with
  |0,hy=>
   obtain rfl:(aB,1)=y:=by simpa [t1] using hy
   exact ⟨cell_of xA 0 _ rfl,cell_of xA 1 _ rfl⟩
  |i+1,hy=>simp [t1]at hy
 have:=sx_addTree h tA hi (fun b hb=>by omega) (by decide)
 rw [step_A hQ]at this
 exact this
theorem sx_c0 {w W:World} {d q Q:Nat} (hQ:1000≤Q) (h:Sx w W d q (dk1 Q L1) sA) :
  Calls Tryz.prog 22 #[pt q,.agg #[.slice none 0 0,.int .i64 0]] W fun e w'=>e = .returned (.tuple #[.int .i64 0,.int .i64 0])∧Sx w w' d q (dk1 Q L2) sB:=by
 have:=sx_addCommit (S0:=fun _=>False) (a:=none) (cap:=0) (c:=c0) h (Turned.refl _ _) ⟨by decide,by simp [maxLen],fun x hx=>by simp [c0]at hx,fun z=>by simp [c0]at z⟩ (fun b z=>z.elim) (by decide)
 rw [step_B hQ]at this
 exact this
theorem sx_c1 {w W:World} {d q Q:Nat} (hQ:1000≤Q) (h:Sx w W d q (dk1 Q L2) sB) :
  Calls Tryz.prog 22 #[pt q,.agg #[.slice (some ⟨W.heap.size,0,none⟩) 1 1,.int .i64 0]] (W.alloc (.cells #[.int .i64 0] 3)) fun e w'=>e = .returned (.tuple #[.int .i64 1,.int .i64 0])∧Sx w w' d q (dk1 Q L3) sC:=by
 obtain ⟨tA,xA⟩:=one_box (w:=W) (.cells #[.int .i64 0] 3)
 have:=sx_addCommit (c:=c1) h tA (ints_zero xA) (fun b hb=>by omega) (by decide)
 rw [step_C1 hQ]at this
 exact this
theorem SwAt.turned {w0 w w' : World} {O T:Nat→Prop} {d q:Nat} {D:Dk} {s:St} (h:SwAt w0 w O d q D s) (t:Turned T w w') (hT:∀ b,O b→¬ T b) (h0:∀ b,T b→w0.heap.size≤b):SwAt w0 w' O d q D s:=by
 obtain ⟨S,rs,tv,cv,h1,h2,h3,h4,h5,h6,h7,h8⟩:=h
 exact ⟨S,rs,tv,cv,h1.turned t fun b z=>hT b (h7 b (.inl z)).1,h2,fun b z=>⟨(h3 b z).1,Nat.lt_of_lt_of_le (h3 b z).2 t.size⟩,h4.turned t fun b z=>hT b (h7 b (.inr z)).1,h5,h6,fun b z=>⟨(h7 b z).1,Nat.lt_of_lt_of_le (h7 b z).2 t.size⟩,h8.comp t fun i hi z=>z.elim id fun z=>by have:=h0 i z;omega⟩
theorem SwAt.opened {w w1:World} {S0:Nat→Prop} {d Q:Nat} (hQ:Q≤16777216) (h:FsIs w1 S0 d ⟨Q,[],[],[],[],0,false⟩) (hb:∀ b,S0 b→w.heap.size≤b∧b<w1.heap.size) (t:Turned (fun _=>False) w w1) :
  Calls Tryz.prog 25 #[pt d] w1 fun e w'=>∃ r,e = .returned (.tuple #[pt r,.int .i64 0])∧SwAt w w' (fun b=>S0 b∨w1.heap.size≤b) d r (dk1 Q emp) noSt∧Turned S0 w1 w':=by
 refine (sopenNew_any h (dk0_ok Q hQ) (by simp) (by simp) (fun b z=>(hb b z).2) rfl).mono fun e w' y=>?_
 have z:=t.size
 rw [open_new]at y
 obtain ⟨S,a1,a2,a3,a4,r,rs,tv,cv,a5,a6,a7⟩:=y
 refine ⟨r,a5,⟨S,rs,tv,cv,a1,dk1_ok Q hQ,fun b y=>⟨(a2 b y).elim (fun y=>(hb b y).1) fun y=>by omega,a3 b y⟩,a6,noSt_good,fun b y=>⟨Nat.le_trans z (a7 b y).1,(a7 b y).2⟩,fun b y=>?_,t.comp a4 fun i hi y=>y.elim id fun y=>by have:=(hb i y).1;omega⟩,a4⟩
 rcases y with y|y
 ·exact ⟨a2 b y,a3 b y⟩
 ·exact ⟨.inr (a7 b y).1,a6.bnd b y⟩
theorem PwAt.mono {w0 w:World} {O O' : Nat→Prop} {d q p:Nat} {D:Dk} {s:St} {x:Ix} (h:PwAt w0 w O d q p D s x) (hO:∀ b,O b→O' b):PwAt w0 w O' d q p D s x:=by
 obtain ⟨S,rs,rx,h,ho⟩:=h
 exact ⟨S,rs,rx,h,fun b z=>hO b (ho b z)⟩
theorem PwAt.all {w0 w:World} {O:Nat→Prop} {d q p:Nat} {D:Dk} {s:St} {x:Ix} (h:PwAt w0 w O d q p D s x):PwAt w0 w (fun b=>w0.heap.size≤b∧b<w.heap.size) d q p D s x:=by
 obtain ⟨S,rs,rx,h,ho⟩:=h.bound
 exact ⟨S,rs,rx,h,fun b z=>⟨z.elim (fun z=>(h.sb b z).1) fun z=>z.elim (h.b1 b) (h.b2 b),(ho b z).2⟩⟩
theorem sw_index {w w2:World} {O:Nat→Prop} {d r:Nat} {D:Dk} {s:St} (h:SwAt w w2 O d r D s) (ho:D.off=false) (hr:D.read chainB=(emp,6)) (n:Int):Calls Tryz.prog 13 #[pt d,.int .i64 n] w2 fun e w'=>∃ p,e = .returned (.tuple #[pt p,.int .i64 0])∧PwAt w w' (fun b=>O b∨w2.heap.size≤b) d r p D s noIx∧Turned (fun _=>False) w2 w':=by
 obtain ⟨S,rs,tv,cv,a1,h2,a2,a3,h5,a4,h7,a5⟩:=h
 refine (xopenNew_any a1 ho hr (by decide) n).mono fun e w' ⟨p,b1,b2,b3,b4,b5⟩=>?_
 have z:=a5.size
 have hrs:∀ b,rs b≠0→b<w2.heap.size:=a3.bnd
 have hrx:∀ b,(if b=p then 1 else 0)≠0→b=p:=fun b hb=>by
  apply Classical.byContradiction
  intro q
  rw [if_neg q]at hb
  exact hb rfl
 refine ⟨p,b1,⟨S,rs,fun b=>if b=p then 1 else 0,⟨a1.turned b5 fun _ _ z=>z,h2,fun b hb=>⟨(a2 b hb).1,Nat.lt_of_lt_of_le (a2 b hb).2 b5.size⟩,⟨tv,cv,a3.turned b5 fun _ _ z=>z⟩,h5,⟨_,_,b4⟩,noIx_ok,fun x hx=>by simp [noIx]at hx,fun b hb=>(a4 b hb).1,fun b hb=>?_,fun b hb=>⟨?_,?_⟩,fun b hb=>?_,a5.trans b5 fun _ _ z=>z⟩,fun b hb=>?_⟩,b5⟩
 ·rw [hrx b hb];omega
 ·apply Classical.byContradiction
  intro q
  exact (a4 b q).2 hb
 ·show (if b = p then 1 else 0) = 0
  rw [if_neg (by have:=(a2 b hb).2;omega)]
 ·show (if b = p then 1 else 0) = 0
  rw [if_neg (by have:=hrs b hb;omega)]
 ·rcases hb with y | y | y
  ·exact .inl (h7 b (.inl y)).1
  ·exact .inl (h7 b (.inr y)).1
  ·rw [hrx b y];exact .inr b2
theorem sx_index {w w2:World} {d r:Nat} {D:Dk} {s:St} (h:Sx w w2 d r D s) (ho:D.off=false) (hr:D.read chainB=(emp,6)) (n:Int):Calls Tryz.prog 13 #[pt d,.int .i64 n] w2 fun e w'=>∃ p,e = .returned (.tuple #[pt p,.int .i64 0])∧PwAt w w' (fun b=>w.heap.size≤b∧b<w'.heap.size) d r p D s noIx:=by
 obtain ⟨O,h⟩:=h
 exact (sw_index h ho hr n).mono fun e w' ⟨p,a,b,_⟩=>⟨p,a,b.all⟩
theorem encT0:encT ([]:List Ent) = .ok (bya (toldT [])):=rfl
theorem logT0_size:(logT []).size=11:=by unfold logT;rw [toldF_size];rfl
def M1:ByteArray:=emp ++ logT []
def M2:ByteArray:=M1 ++ logC c0
theorem M1_size:M1.size=11:=by unfold M1;rw [ByteArray.size_append,logT0_size,esz]
theorem M2_size:M2.size=25:=by unfold M2;rw [ByteArray.size_append,M1_size,logC0_size]
def sA0:St:=⟨[[]],[],false⟩
def sB0:St:=⟨[[]],[c0],false⟩
theorem step_A0 {q:Nat} (hq:1000≤q):addTree (dk1 q emp) noSt []=(dk1 q M1,sA0,0,0):=
 addTree_good rfl encT0 (by simp [noSt]) (write_1 (s:=noSt) (k:=1) (b:=bya (toldT [])) (by show emp.size+(logT []).size≤q;rw [esz,logT0_size];omega))
theorem step_B0 {q:Nat} (hq:1000≤q):addCommit (dk1 q M1) sA0 c0=(dk1 q M2,sB0,0,0):=
 addCommit_good rfl encC0 rfl (by simp [sA0]) (write_1 (s:=sA0) (k:=2) (b:=bya (toldC c0)) (by show M1.size+(logC c0).size≤q;rw [M1_size,logC0_size];omega))
def r0:Rw:=⟨[],0,1,(makeF usualG []).state,(makeF usualG []).bits⟩
theorem filt00:ofF usualG [] []=makeF usualG []:=by
 have:diffP [] []=[]:=by rw [diffP];rfl
 unfold ofF;rw [this]
theorem newG_B0:newG sB0 usualG 0 []=⟨0,3,10,9,0,[r0]⟩:=by
 have h1:rowOf sB0 usualG 0 1=r0:=by
  have e:(ofF usualG (oldS sB0 c0) (contentS sB0 (0:Nat)))=makeF usualG []:=filt00
  show (⟨[],0,1,(ofF usualG (oldS sB0 c0) (contentS sB0 (0:Nat))).state,(ofF usualG (oldS sB0 c0) (contentS sB0 (0:Nat))).bits⟩:Rw)=r0
  rw [e];rfl
 show (⟨0,3,10,9,0,[rowOf sB0 usualG 0 1]⟩:Gr)=_
 rw [h1]
theorem sc_tree0 {w W0 W:World} {K:Nat→Prop} {d q p Q:Nat} (hQ:1000≤Q) (h:Sc w W0 W K d q p (dk1 Q emp) noSt noIx) :
  Calls Tryz.prog 21 #[pt q,.slice none 0 0] W fun e w'=>e = .returned (.tuple #[.int .i64 0,.int .i64 0])∧Sc w W0 w' K d q p (dk1 Q M1) sA0 noIx:=by
 obtain ⟨O,h1,h2,h3,h4⟩:=h
 have:=pw_addTree (S0:=fun _=>False) (a:=none) (cap:=0) (t:=[]) h1 ⟨by decide,by simp [maxLen],fun x hx=>by simp at hx,fun z=>by simp at z⟩ (fun b z=>z.elim) (by decide)
 rw [step_A0 hQ]at this
 exact this.mono fun e w' ⟨a,b⟩=>⟨a,Sc.to b h3 h4⟩
theorem sc_c00 {w W0 W:World} {K:Nat→Prop} {d q p Q:Nat} (hQ:1000≤Q) (h:Sc w W0 W K d q p (dk1 Q M1) sA0 noIx) :
  Calls Tryz.prog 22 #[pt q,.agg #[.slice none 0 0,.int .i64 0]] W fun e w'=>e = .returned (.tuple #[.int .i64 0,.int .i64 0])∧Sc w W0 w' K d q p (dk1 Q M2) sB0 noIx:=by
 obtain ⟨O,h1,h2,h3,h4⟩:=h
 have:=pw_addCommit (S0:=fun _=>False) (a:=none) (cap:=0) (c:=c0) h1 ⟨by decide,by simp [maxLen],fun x hx=>by simp [c0]at hx,fun z=>by simp [c0]at z⟩ (fun b z=>z.elim) (by decide)
 rw [step_B0 hQ]at this
 exact this.mono fun e w' ⟨a,b⟩=>⟨a,Sc.to b h3 h4⟩
def g0:Gr:=⟨0,3,10,9,0,[⟨[],0,1,1,⟨#[0]⟩⟩]⟩
def T0:ByteArray:=⟨#[80,68,71,67,1,5,0,0,0,1,0,0,0,16,0,0,0,2,0,0,0,15,0,0,0,3,0,0,0,0,0,0,0,4,0,0,0,4,0,0,0,5,0,0,0,1,0,0,0,0,0,0,0,1,3,10,0,9,0,0,0,0,0,0,0,0,255,255,255,255,255,255,255,255,0,1,1,0,0,0,1,0,221,149,239,224]⟩
def C0:ByteArray:=⟨#[80,68,71,77,1,1,0,0,0,0,0,0,0,1,247,219,207,139,233,149,210,85]⟩
def l0:List Ch:=[(1,⟨#[0,0,0,0,0,0,0,1,3,10,0,9,0,0,0,0]⟩),(2,⟨#[0,0,0,0,255,255,255,255,255,255,255,255,0,1,1]⟩),(3,⟨#[]⟩),(4,⟨#[0,0,0,1]⟩),(5,⟨#[0]⟩)]
theorem r0_is:r0=⟨[],0,1,1,⟨#[0]⟩⟩:=by
 have h:makeF usualG []=⟨1,⟨#[0]⟩⟩:=by kernel_rfl
 unfold r0;rw [h]
theorem g0_is:newG sB0 usualG 0 []=g0:=by rw [newG_B0,r0_is];rfl
theorem T0_built:built (chunksG g0)=T0:=by decide +kernel
theorem T0_sum:Crc.sum (nums T0)=4158377867:=by decide +kernel
theorem C0_told:Ch.toldLn [(0,1,4158377867)]=C0:=by decide +kernel
theorem enc0 (h:(encE g0).2=0):encE g0=(T0,0):=by
 have h2:encE g0=(built (chunksG g0),0):=by
  unfold encE at h ⊢
  split at h
  ·rename_i q1
   split at h
   ·simp at h
   ·rename_i q2
    split at h
    ·rename_i q3
     rw [if_pos q1,if_neg q2,if_pos q3]
    ·rename_i q3
     exact absurd h q3
  ·simp at h
 rw [h2,T0_built]
theorem encC0L (h:(encL [(0,1,4158377867)]).2=0):(encL [(0,1,4158377867)]).1=C0:=by
 unfold encL at h ⊢
 split at h
 ·rename_i q
  rw [if_pos q,C0_told]
 ·rename_i q
  exact absurd h q
theorem dec0C:Ch.decR C0 = .ok [(0,1,4158377867)]:=by kernel_rfl
theorem par0:parseR T0 = .ok l0:=by kernel_rfl
theorem prog0:progR l0=some g0:=by kernel_rfl
theorem pwi_len {w0 w:World} {O:Nat→Prop} {d q p:Nat} {D:Dk} {s:St} {x:Ix} (h:PwAt w0 w O d q p D s x):Calls Tryz.prog 15 #[pt p] w fun e w'=>e = .returned (.int .i64 x.len)∧Turned (fun _=>False) w w':=by
 obtain ⟨S,rs,rx,h,ho⟩:=h
 obtain ⟨lv,gv,h2⟩:=h.ix
 exact xlen_any h2 h.iok
theorem pwi_row {w0 w:World} {O:Nat→Prop} {d q p:Nat} {D:Dk} {s:St} {x:Ix} {n:Int} {g:Gr} {r:Rw} (h:PwAt w0 w O d q p D s x) (hf:findX x n=some (g,r)):Calls Tryz.prog 20 #[pt p,.int .i64 n] w (RoPost w r):=by
 obtain ⟨S,rs,rx,h,ho⟩:=h
 obtain ⟨lv,gv,h2⟩:=h.ix
 exact xrow_some h2 h.iok n hf
theorem pwi_may {w0 w:World} {O:Nat→Prop} {d q p:Nat} {D:Dk} {s:St} {x:Ix} {n:Int} {path:ByteArray} {g:Gr} {r:Rw} (h:PwAt w0 w O d q p D s x) (hf:findX x n=some (g,r)) (hp:path.size≤1000000000):Calls Tryz.prog 17 #[pt p,.int .i64 n,.string path] w fun e w'=>e = .returned (.bool (mayF (stgOf g) (fltOf r) path))∧Turned (fun _=>False) w w':=by
 obtain ⟨S,rs,rx,h,ho⟩:=h
 obtain ⟨lv,gv,h2⟩:=h.ix
 exact xmay_some h2 h.iok n path hp hf
theorem pwi_names {w0 w:World} {O:Nat→Prop} {d q p:Nat} {D:Dk} {s:St} {x:Ix} (h:PwAt w0 w O d q p D s x):Calls Tryz.prog 36 #[pt d] w (NamesPost w D):=by
 obtain ⟨S,rs,rx,h,ho⟩:=h
 exact fsNames h.disk h.dok
theorem PwAt.sc {w W:World} {d q p:Nat} {D:Dk} {s:St} {x:Ix} (h:PwAt w W (fun b=>w.heap.size≤b∧b<W.heap.size) d q p D s x):Sc w W W (fun _=>False) d q p D s x:=
 ⟨_,h,fun b z=>z.2,fun b z=>z.elim,Turned.refl _ _⟩
theorem Sc.pw {w W0 W:World} {K:Nat→Prop} {d q p:Nat} {D:Dk} {s:St} {x:Ix} (h:Sc w W0 W K d q p D s x):∃ O,PwAt w W O d q p D s x:=by
 obtain ⟨O,h1,-⟩:=h
 exact ⟨O,h1⟩
theorem sx_commits {w W:World} {d q:Nat} {D:Dk} {s:St} (h:Sx w W d q D s):Calls Tryz.prog 30 #[pt q] W fun e w'=>e = .returned (.int .i64 (s.commits.length:Nat))∧W=w':=by
 obtain ⟨O,S,rs,tv,cv,h1,h2,h3,h4,h5,h6,h7,h8⟩:=h
 exact scommits_any h4
theorem findC {sm:Nat} (h:IxOk (ix1 2 sm ⟨0,3,10,9,0,[rA,rB]⟩)):findX (ix1 2 sm ⟨0,3,10,9,0,[rA,rB]⟩) 0=some (⟨0,3,10,9,0,[rA,rB]⟩,rA)∧findX (ix1 2 sm ⟨0,3,10,9,0,[rA,rB]⟩) 1=some (⟨0,3,10,9,0,[rA,rB]⟩,rB):=by
 constructor
 ·obtain ⟨r, h1, h2⟩ := findX_at h (n := 0) (i := 0) (g := ⟨0, 3, 10, 9, 0, [rA, rB]⟩) rfl (by simp [ix1, Ch.totLn]) (by decide)
  have e:(([rA,rB]:List Rw)[((0:Int) - 0).toNat]?)=some rA:=rfl
  have:some rA=some r:=e.symm.trans h1
  rw [h2,←Option.some.inj this]
 ·obtain ⟨r, h1, h2⟩ := findX_at h (n := 1) (i := 0) (g := ⟨0, 3, 10, 9, 0, [rA, rB]⟩) rfl (by simp [ix1, Ch.totLn]) (by decide)
  have e:(([rA,rB]:List Rw)[((1:Int) - 0).toNat]?)=some rB:=rfl
  have:some rB=some r:=e.symm.trans h1
  rw [h2,←Option.some.inj this]
theorem dec0_any (h:(encE g0).2=0) (w:World):Calls Tryz.prog 129 #[.string T0] w fun e w'=>Turned (fun _=>False) w w'∧∃ a2 c2,e = .returned (.tuple #[grv a2 c2 g0,.int .i64 0])∧RwIs w' (fun b=>w.heap.size≤b) a2 c2 g0.rows:=by
 have hd:datC l0 3=⟨#[]⟩:=by decide +kernel
 have h5:∀ c∈l0,c.1<4294967296∧c.2.size≤4194304:=by unfold l0;decide
 refine decode_is T0 l0 g0 w (by decide) par0 (fun c hc=>⟨(h5 c hc).1,Nat.le_trans (h5 c hc).2 (by decide)⟩) (fun id=>?_) prog0 (by rw [encG_eq,enc0 h]) ⟨⟨by decide,by decide⟩,⟨by decide,by decide⟩,⟨by decide,by decide⟩,⟨by decide,by decide⟩,by decide⟩ (fun r hr=>?_) ?_
 ·unfold datC
  cases hq:findCh l0 id with
  |none=>decide
  |some c=>exact (h5 c (List.mem_of_find?_eq_some hq)).2
 ·simp only [g0, List.mem_singleton] at hr
  subst hr
  exact ⟨⟨⟨by decide,by decide⟩,⟨by decide,by decide⟩,⟨by decide,by decide⟩,by decide⟩,fun x hx=>by simp at hx,by decide⟩
 ·have q : ∀ (j : Nat) (par : List Int) (W : World), 15 * j + 15 ≤ (datC l0 2).size → progPar (fld (datC l0 2) (15 * j + 4) 4) (fld (datC l0 2) (15 * j + 8) 4) (datC l0 3) = some par → Calls Tryz.prog 294 #[.int .u32 (fld (datC l0 2) (15 * j + 4) 4 : Nat), .int .u32 (fld (datC l0 2) (15 * j + 8) 4 : Nat), .string (datC l0 3)] W fun e w' => ∃ pa pc, e = .returned (.slice pa par.length pc) ∧ Sl w' (fun b => W.heap.size ≤ b) 3 1 (.slice pa par.length pc) (ncells par) par.length ∧ Turned (fun _ => False) W w' := by
   intro j par W hj hp
   have hs:(datC l0 2).size=15:=by decide +kernel
   obtain rfl:j=0:=by omega
   have h1:fld (datC l0 2) (15 * 0+4) 4=4294967295:=by decide +kernel
   have h2:fld (datC l0 2) (15 * 0+8) 4=4294967295:=by decide +kernel
   rw [h1,h2]at hp ⊢
   obtain rfl:[]=par:=Option.some.inj hp
   exact (parents_none _ W).mono fun e w' ⟨a,b⟩=>⟨none,0,a,Sl.nil _ _ _ _,b⟩
  exact q
set_option maxHeartbeats 4000000 in
theorem xstands_is {w:World} {S:Nat→Prop} {rx:Nat→Nat} {d p sm:Nat} {lv gv:Value} {D:Dk} {n:Int} {T G:ByteArray} {R:List Rw} (hD:FsIs w S d D) (hx:IxAt w rx p (pt d) lv gv noIx) (tab:∀ W,Turned (fun _=>False) w W→Ch.Tab W) (hG:Ch.nameS 0=G) (hr:D.read G=(T,0)) (hT:T.size≤4611686018427387904) (hsm:Crc.sum (nums T)=sm)
  (hdec:Hid (∀ W,Calls Tryz.prog 129 #[.string T] W fun e w'=>Turned (fun _=>False) W w'∧∃ a c,e = .returned (.tuple #[.agg #[.int .i64 0,.int .i64 3,.int .i64 10,.int .i64 9,.int .u32 0,.slice a 1 c],.int .i64 0])∧RwIs w' (fun b=>W.heap.size≤b) a c R)) :
  Calls Tryz.prog 55 #[pt p,.agg #[.int .i64 0,.int .i64 1,.int .u32 (sm:Nat)],.int .i64 n] w fun e w'=>∃ a c,e = .returned (.tuple #[.agg #[.int .i64 0,.int .i64 3,.int .i64 10,.int .i64 9,.int .u32 0,.slice a 1 c],.bool (decide (1≤n))])∧RwIs w' (fun b=>w.heap.size≤b) a c R∧Turned (fun _=>False) w w':=by
 obtain ⟨V,hV⟩:∃ V,V=(w.alloc (.cells #[.int .i64 0,.int .i64 1,.int .u32 (sm:Nat)] 120)).alloc (.cells #[.int .i64 0,.int .i64 0,.int .i64 0,.int .i64 0,.int .u32 0,.slice none 0 0] 123):=⟨_,rfl⟩
 have HVV:Hid (V=(w.alloc (.cells #[.int .i64 0,.int .i64 1,.int .u32 (sm:Nat)] 120)).alloc (.cells #[.int .i64 0,.int .i64 0,.int .i64 0,.int .i64 0,.int .u32 0,.slice none 0 0] 123)):=hV
 obtain ⟨tV,xA,xB⟩:=two_boxes (w:=w) (.cells #[.int .i64 0,.int .i64 1,.int .u32 (sm:Nat)] 120) (.cells #[.int .i64 0,.int .i64 0,.int .i64 0,.int .i64 0,.int .u32 0,.slice none 0 0] 123)
 rw [←hV]at tV xA xB
 have zV:V.heap.size=w.heap.size+2:=by rw [hV];simp
 have HXV:Hid (∀ W,Turned (fun _=>False) V W→(W.cell? ⟨p,0,none⟩=some (pt d)∧W.cell? ⟨w.heap.size,0,none⟩=some (.int .i64 0))∧W.cell? ⟨w.heap.size,2,none⟩=some (.int .u32 (sm:Nat))∧W.cell? ⟨w.heap.size,1,none⟩=some (.int .i64 1)∧W.heap[w.heap.size+1]? = some (.cells #[.int .i64 0,.int .i64 0,.int .i64 0,.int .i64 0,.int .u32 0,.slice none 0 0] 123)∧w.heap.size+2≤W.heap.size):=fun W t=>by
  have h1:=boxed xA t id
  have h2:=boxed xB t id
  have h3:=boxed (boxed hx.blk tV id) t id
  exact ⟨⟨cell_of h3 0 _ rfl,cell_of h1 0 _ rfl⟩,cell_of h1 2 _ rfl,cell_of h1 1 _ rfl,h2,by have:=t.size;omega⟩
 have HN:Hid (∀ W,Turned (fun _=>False) V W→Calls Tryz.prog 128 #[.int .i64 0] W fun e w'=>e = .returned (.string G)∧Turned (fun _=>False) V w'):=fun W t=>(Ch.name_any 0 ⟨by decide,by decide⟩ W (tab W (tV.trans t fun _ _ z=>z))).mono fun e w' ⟨a,b⟩=>⟨by rw [a,hG],t.trans b fun _ _ z=>z⟩
 have HRD:Hid (∀ W,Turned (fun _=>False) V W→Calls Tryz.prog 27 #[pt d,.string G] W fun e w'=>e = .returned (.tuple #[.string T,.int .i64 0])∧W=w'):=fun W t=>by
  have:=fsRead ((hD.turned tV fun _ _ z=>z).turned t fun _ _ z=>z) G
  rw [hr]at this
  exact this
 have HSM:Hid (∀ W b,Turned (fun _=>False) V W→W.heap[b]? = some (.cells #[.string T] 9)→Calls Tryz.prog 124 #[.slice (some ⟨b,0,none⟩) 1 1] W fun e w'=>e = .returned (.int .u32 (sm:Nat))∧Turned (fun _=>False) V w'):=fun W b t hb=>by
  have:=sum_one b 0 1 T W (cell_of hb 0 _ rfl) (lt_of_block hb) hT
  rw [hsm]at this
  exact this.mono fun e w' ⟨a,b⟩=>⟨a,t.trans b fun _ _ z=>z⟩
 have HDC:Hid (∀ W,Turned (fun _=>False) V W→Calls Tryz.prog 129 #[.string T] W fun e w'=>∃ a c,e = .returned (.tuple #[.agg #[.int .i64 0,.int .i64 3,.int .i64 10,.int .i64 9,.int .u32 0,.slice a 1 c],.int .i64 0])∧RwIs w' (fun b=>V.heap.size≤b) a c R∧Turned (fun _=>False) V w'):=fun W t=>(hdec.out W).mono fun e w' ⟨h1,a,c,h2,h3⟩=>⟨a,c,h2,h3.mono fun b hb=>Nat.le_trans t.size hb,t.trans h1 fun _ _ z=>z⟩
 have HL:Hid (∀ W,Turned (fun _=>False) V W→Calls Tryz.prog 15 #[pt p] W fun e w'=>e = .returned (.int .i64 0)∧Turned (fun _=>False) W w'):=fun W t=>xlen_any ((hx.turned tV fun _ _ z=>z).turned t fun _ _ z=>z) noIx_ok
 have Q0:Hid (Turned (fun _=>False) V V.drew):=hidS (Turned.drew _ _)
 have TV:Hid (Turned (fun _=>False) w V∧V.heap.size=w.heap.size+2):=⟨tV,zV⟩
 clear hV tV xA xB hD hx tab hG hr hT hsm hdec zV
 go_enter Tryz.func55,Tryz.ntmps55
 go_wp2_with fail
 rw [←HVV.out]
 go_region_held3 (fun W=>W.cell? ⟨p,0,none⟩=some (pt d)∧W.cell? ⟨w.heap.size,0,none⟩=some (.int .i64 0))
  (first|(exact (HXV.out _ Q0.out).1)|(exact (HXV.out _ t1).1)|go_keep)
  (first
   |(go_at_call 128;(with_reducible refine (HN.out _ Q0.out).mono ?_);rintro e w1 ⟨rfl,t1⟩)
   |(go_at_call 27;(with_reducible refine (HRD.out _ t1).mono ?_);rintro e w2 ⟨rfl,rfl⟩))
 go_wp2
 have Q1:Hid (Turned (fun _=>False) V w1):=hidS t1
 go_region_held3 (fun W=>W.cell? ⟨w.heap.size,2,none⟩=some (.int .u32 (sm:Nat)))
  (first|(exact (HXV.out _ Q1.out.draw).2.1)|(exact (HXV.out _ (Q1.out.new _).draw).2.1)|(exact (HXV.out _ t3).2.1)|go_keep)
  (first
   |(go_at_call 124;have hb1:(w1.alloc (.cells #[.string T] 9)).drew.heap[w1.heap.size]? = some (.cells #[.string T] 9):=Go.Mine.heap_alloc_new w1 _;(with_reducible refine (HSM.out (w1.alloc (.cells #[.string T] 9)).drew w1.heap.size (Q1.out.new _).draw hb1).mono ?_);clear hb1;rintro e w3 ⟨rfl,t3⟩))
 go_wp2_with (first
  |(go_at_call 129;(with_reducible refine (HDC.out _ t3).mono ?_);rintro e w4 ⟨a,c,rfl,r4,t4⟩;replace r4:Hid _:=hidS r4))
 obtain ⟨tX,xX⟩:=one_box (w:=w4) (.cells #[.int .i64 0,.int .i64 3,.int .i64 10,.int .i64 9,.int .u32 0,.slice a 1 c] 123)
 have TX:Hid (Turned (fun _=>False) V (w4.alloc (.cells #[.int .i64 0,.int .i64 3,.int .i64 10,.int .i64 9,.int .u32 0,.slice a 1 c] 123))):=hidS (t4.trans tX fun _ _ z=>z)
 have RX:Hid (RwIs (w4.alloc (.cells #[.int .i64 0,.int .i64 3,.int .i64 10,.int .i64 9,.int .u32 0,.slice a 1 c] 123)) (fun b=>V.heap.size≤b) a c R):=hidS (r4.out.turned tX fun _ _ z=>z)
 clear t1 t3 r4 tX
 generalize w4.alloc (.cells #[.int .i64 0,.int .i64 3,.int .i64 10,.int .i64 9,.int .u32 0,.slice a 1 c] 123)=X at *
 have n1:¬ w4.heap.size=w.heap.size+1:=by have:=(HXV.out _ t4).2.2.2.2;omega
 have n2:¬ w.heap.size+1=w4.heap.size:=fun z=>n1 z.symm
 clear t4
 generalize w4.heap.size=b2 at *
 have HS5:Hid (∀ W,Turned (fun _=>False) X W→W.cell? ⟨b2,0,none⟩=some (.int .i64 0)∧W.cell? ⟨b2,1,none⟩=some (.int .i64 3)∧W.cell? ⟨b2,2,none⟩=some (.int .i64 10)∧W.cell? ⟨b2,3,none⟩=some (.int .i64 9)∧W.cell? ⟨b2,4,none⟩=some (.int .u32 0)∧W.cell? ⟨b2,5,none⟩=some (.slice a 1 c)∧W.cell? ⟨w.heap.size,1,none⟩=some (.int .i64 1)):=fun W t=>by
  have h1:=boxed xX t id
  exact ⟨cell_of h1 0 _ rfl,cell_of h1 1 _ rfl,cell_of h1 2 _ rfl,cell_of h1 3 _ rfl,cell_of h1 4 _ rfl,cell_of h1 5 _ rfl,(HXV.out W (TX.out.trans t fun _ _ z=>z)).2.2.1⟩
 have HB1:Hid (∀ W,Turned (fun _=>False) X W→W.heap[w.heap.size+1]? = some (.cells #[.int .i64 0,.int .i64 0,.int .i64 0,.int .i64 0,.int .u32 0,.slice none 0 0] 123)):=fun W t=>(HXV.out W (TX.out.trans t fun _ _ z=>z)).2.2.2.1
 have HL5:Hid (∀ W,Turned (fun _=>False) X W→Calls Tryz.prog 15 #[pt p] W fun e w'=>e = .returned (.int .i64 0)∧Turned (fun _=>False) X w'):=fun W t=>(HL.out W (TX.out.trans t fun _ _ z=>z)).mono fun e w' ⟨x,y⟩=>⟨x,t.trans y fun _ _ z=>z⟩
 have HSK:Hid (∀ (W:World) (x0 x1 x2 x3 x4 x5:Value),((W).cell? ⟨b2,0,none⟩=some (.int .i64 0)∧(W).cell? ⟨b2,1,none⟩=some (.int .i64 3)∧(W).cell? ⟨b2,2,none⟩=some (.int .i64 10)∧(W).cell? ⟨b2,3,none⟩=some (.int .i64 9)∧(W).cell? ⟨b2,4,none⟩=some (.int .u32 0)∧(W).cell? ⟨b2,5,none⟩=some (.slice a 1 c)∧(W).cell? ⟨w.heap.size,1,none⟩=some (.int .i64 1))→((((((((W.setCell ⟨w.heap.size+1,0,none⟩ x0).setCell ⟨w.heap.size+1,1,none⟩ x1).setCell ⟨w.heap.size+1,2,none⟩ x2).setCell ⟨w.heap.size+1,3,none⟩ x3).setCell ⟨w.heap.size+1,4,none⟩ x4).setCell ⟨w.heap.size+1,5,none⟩ x5)).cell? ⟨b2,0,none⟩=some (.int .i64 0)∧(((((((W.setCell ⟨w.heap.size+1,0,none⟩ x0).setCell ⟨w.heap.size+1,1,none⟩ x1).setCell ⟨w.heap.size+1,2,none⟩ x2).setCell ⟨w.heap.size+1,3,none⟩ x3).setCell ⟨w.heap.size+1,4,none⟩ x4).setCell ⟨w.heap.size+1,5,none⟩ x5)).cell? ⟨b2,1,none⟩=some (.int .i64 3)∧(((((((W.setCell ⟨w.heap.size+1,0,none⟩ x0).setCell ⟨w.heap.size+1,1,none⟩ x1).setCell ⟨w.heap.size+1,2,none⟩ x2).setCell ⟨w.heap.size+1,3,none⟩ x3).setCell ⟨w.heap.size+1,4,none⟩ x4).setCell ⟨w.heap.size+1,5,none⟩ x5)).cell? ⟨b2,2,none⟩=some (.int .i64 10)∧(((((((W.setCell ⟨w.heap.size+1,0,none⟩ x0).setCell ⟨w.heap.size+1,1,none⟩ x1).setCell ⟨w.heap.size+1,2,none⟩ x2).setCell ⟨w.heap.size+1,3,none⟩ x3).setCell ⟨w.heap.size+1,4,none⟩ x4).setCell ⟨w.heap.size+1,5,none⟩ x5)).cell? ⟨b2,3,none⟩=some (.int .i64 9)∧(((((((W.setCell ⟨w.heap.size+1,0,none⟩ x0).setCell ⟨w.heap.size+1,1,none⟩ x1).setCell ⟨w.heap.size+1,2,none⟩ x2).setCell ⟨w.heap.size+1,3,none⟩ x3).setCell ⟨w.heap.size+1,4,none⟩ x4).setCell ⟨w.heap.size+1,5,none⟩ x5)).cell? ⟨b2,4,none⟩=some (.int .u32 0)∧(((((((W.setCell ⟨w.heap.size+1,0,none⟩ x0).setCell ⟨w.heap.size+1,1,none⟩ x1).setCell ⟨w.heap.size+1,2,none⟩ x2).setCell ⟨w.heap.size+1,3,none⟩ x3).setCell ⟨w.heap.size+1,4,none⟩ x4).setCell ⟨w.heap.size+1,5,none⟩ x5)).cell? ⟨b2,5,none⟩=some (.slice a 1 c)∧(((((((W.setCell ⟨w.heap.size+1,0,none⟩ x0).setCell ⟨w.heap.size+1,1,none⟩ x1).setCell ⟨w.heap.size+1,2,none⟩ x2).setCell ⟨w.heap.size+1,3,none⟩ x3).setCell ⟨w.heap.size+1,4,none⟩ x4).setCell ⟨w.heap.size+1,5,none⟩ x5)).cell? ⟨w.heap.size,1,none⟩=some (.int .i64 1))):=fun W x0 x1 x2 x3 x4 x5 ⟨h0,h1,h2,h3,h4,h5,h6⟩=>by
  have t:=six_turned W (w.heap.size+1) x0 x1 x2 x3 x4 x5
  exact ⟨cell_at h0 t n1,cell_at h1 t n1,cell_at h2 t n1,cell_at h3 t n1,cell_at h4 t n1,cell_at h5 t n1,cell_at h6 t (by omega)⟩
 clear xX HSM HDC HN HRD HL Q1
 have I0:=HS5.out X.drew (Turned.drew _ _)
 go_region_held3 (fun W=>W.cell? ⟨b2,0,none⟩=some (.int .i64 0)∧W.cell? ⟨b2,1,none⟩=some (.int .i64 3)∧W.cell? ⟨b2,2,none⟩=some (.int .i64 10)∧W.cell? ⟨b2,3,none⟩=some (.int .i64 9)∧W.cell? ⟨b2,4,none⟩=some (.int .u32 0)∧W.cell? ⟨b2,5,none⟩=some (.slice a 1 c)∧W.cell? ⟨w.heap.size,1,none⟩=some (.int .i64 1))
  (first|(with_reducible exact I0)|(with_reducible exact I1)|(with_reducible exact HSK.out w5 _ _ _ _ _ _ I1))
  (first
   |(go_at_call 15;(with_reducible refine (HL5.out _ (Turned.drew _ _)).mono ?_);rintro e w5 ⟨rfl,t5⟩;have I1:=HS5.out w5 t5;have hb:=HB1.out w5 t5;have z0:=cell_of hb 0 _ rfl;have z1:=cell_of hb 1 _ rfl;have z2:=cell_of hb 2 _ rfl;have z3:=cell_of hb 3 _ rfl;have z4:=cell_of hb 4 _ rfl;have z5:=cell_of hb 5 _ rfl;have f0:=free_of hb 0;have f1:=free_of hb 1;have f2:=free_of hb 2;have f3:=free_of hb 3;have f4:=free_of hb 4;have f5:=free_of hb 5;have lb:=lt_of_block hb;clear hb))
 go_wp2
 have tW:=six_turned w5 (w.heap.size+1) (.int .i64 0) (.int .i64 3) (.int .i64 10) (.int .i64 9) (.int .u32 0) (.slice a 1 c)
 have bW:=six_same w5 (w.heap.size+1) _ _ _ _ _ _ (.int .i64 0) (.int .i64 3) (.int .i64 10) (.int .i64 9) (.int .u32 0) (.slice a 1 c) (HB1.out w5 t5)
 have rW:=(RX.out.turned t5 fun _ _ z=>z).turned tW fun b hb z=>by have:=TV.out.2;omega
 have TT:=((TV.out.1.trans TX.out fun _ _ z=>z).trans t5 fun _ _ z=>z).comp tW (T:=fun _=>False) fun i hi z=>z.elim id fun z=>by have:i=w.heap.size+1:=z;omega
 generalize ((((((w5.setCell ⟨w.heap.size+1,0,none⟩ (.int .i64 0)).setCell ⟨w.heap.size+1,1,none⟩ (.int .i64 3)).setCell ⟨w.heap.size+1,2,none⟩ (.int .i64 10)).setCell ⟨w.heap.size+1,3,none⟩ (.int .i64 9)).setCell ⟨w.heap.size+1,4,none⟩ (.int .u32 0)).setCell ⟨w.heap.size+1,5,none⟩ (.slice a 1 c))=F at *
 have q0:=cell_of bW 0 _ rfl
 have q1:=cell_of bW 1 _ rfl
 have q2:=cell_of bW 2 _ rfl
 have q3:=cell_of bW 3 _ rfl
 have q4:=cell_of bW 4 _ rfl
 have q5:=cell_of bW 5 _ rfl
 have hwr:IntKind.i64.wrap 1=1:=by decide
 refine bodyPost_ret (v:=.tuple #[.agg #[.int .i64 0,.int .i64 3,.int .i64 10,.int .i64 9,.int .u32 0,.slice a 1 c],.bool (decide (IntKind.i64.wrap 1≤n))]) (by simp [results,Tryz.results55,go_sem,q0,q1,q2,q3,q4,q5]) rfl ?_
 exact ⟨a,c,by rw [hwr],rW.mono fun b hb=>by have:=TV.out.2;omega,TT⟩
theorem ixB_ok {w w0:World} {O:Nat→Prop} {d q p:Nat} {D:Dk} {s:St} {x:Ix} (h:PwAt w0 w O d q p D s x):IxOk x:=by
 obtain ⟨S,rs,rx,h,ho⟩:=h
 exact h.iok
structure See2 (v:Nat) (W:World):Prop where
 h43:∀ W',Turned (fun _=>False) W W'→Calls Tryz.prog 43 #[pt v] W' fun e w'=>e = .returned (.int .i64 2)∧W'=w'
 h44:∀ W',Turned (fun _=>False) W W'→Calls Tryz.prog 44 #[pt v] W' fun e w'=>e = .returned (.int .i64 1)∧Turned (fun _=>False) W w'
 h450:∀ W',Turned (fun _=>False) W W'→Calls Tryz.prog 45 #[pt v,.int .i64 0] W' fun e w'=>e = .returned (.int .i64 1)∧Turned (fun _=>False) W w'
 h451:∀ W',Turned (fun _=>False) W W'→Calls Tryz.prog 45 #[pt v,.int .i64 1] W' fun e w'=>e = .returned (.int .i64 1024)∧Turned (fun _=>False) W w'
 h471:∀ W',Turned (fun _=>False) W W'→Calls Tryz.prog 47 #[pt v,.int .i64 1] W' fun e w'=>(∃ a c,e = .returned (.slice a 1 c))∧Turned (fun _=>False) W w'
 h461:∀ W',Turned (fun _=>False) W W'→Calls Tryz.prog 46 #[pt v,.int .i64 1] W' fun e w'=>(∃ a c,e = .returned (.slice a 1 c))∧Turned (fun _=>False) W w'
 h481:∀ W',Turned (fun _=>False) W W'→Calls Tryz.prog 48 #[pt v,.int .i64 1,.string ⟨#[120]⟩] W' fun e w'=>e = .returned (.bool true)∧Turned (fun _=>False) W w'
 h480:∀ W',Turned (fun _=>False) W W'→Calls Tryz.prog 48 #[pt v,.int .i64 0,.string ⟨#[120]⟩] W' fun e w'=>e = .returned (.bool false)∧Turned (fun _=>False) W w'
/-! ### The document's side -/
def K1 (w w' : World) (d Q:Nat):Prop:=RkIs w' (fun b=>w.heap.size≤b∧b<w'.heap.size) d ⟨Q,[],[],[],[],0,false⟩∧Turned (fun _=>False) w w'
theorem kd_new (Q:Nat) (h:Q≤16777216) (w:World):Calls Tryz.prog 56 #[.int .i64 (Q:Nat)] w fun e w'=>∃ d,e = .returned (.tuple #[pt d,.int .i64 0])∧K1 w w' d Q:=
 (knew_any (Q : Nat) w).mono fun e w' y => by
  have hn:newDk (Q:Nat)=some ⟨Q,[],[],[],[],0,false⟩:=by unfold newDk;rw [if_neg (by omega)];rfl
  rcases y with ⟨y,-,-⟩|⟨D,d,y,h1,h2,h3⟩
  ·rw [hn]at y;cases y
  ·rw [hn] at y
   obtain rfl:=Option.some.inj y
   exact ⟨d,h1,h2.widen fun b hb z=>⟨z,hb⟩,h3⟩
def K2 (w w' : World) (d Q:Nat):Prop:=(∃ S,RkIs w' S d (dk1 Q emp))∧Turned (fun _=>False) w w'
end Go.Proofs.YtofcogekgcgjhaaGreatDoor
