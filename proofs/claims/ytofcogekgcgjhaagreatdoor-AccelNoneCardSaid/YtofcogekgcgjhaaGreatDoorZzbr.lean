/- Packed. -/
import Derived.Test.YtofcogekgcgjhaaGreatDoorZzbp
import Derived.Test.YtofcogekgcgjhaaGreatDoorZzbq
set_option linter.unusedVariables false
set_option linter.unusedSimpArgs false
set_option maxRecDepth 100000
namespace Go.Proofs.YtofcogekgcgjhaaGreatDoor
open Go.RowKit Go.Mine Go.Mine.Ac
theorem xlay_fine {w:World} {S SL SG SR:Nat→Prop} {rx:Nat→Nat} {d p:Nat} {lv gv:Value} {D:Dk} {x:Ix} {la ga ra:Option Addr} {lc gc rc:Nat} {links:List Ch.Ln} {graphs:List Gr} {gvs:List Value} {g:Gr} (h:LayIn w S rx d p lv gv D x SL SG SR la lc links ga gc graphs gvs ra rc g) (hk:(layX D x links graphs g).2.2=0) :
  Calls Tryz.prog 62 #[pt p,.slice la links.length lc,.slice ga graphs.length gc,grv ra rc g] w (LayPost w S SR rx d p (layX D x links graphs g)):=by
 have he:(encE g).2=0:=Classical.byContradiction fun q=>q (by rw [layX_e1 q]at hk;exact hk)
 have he2:(encL (linkX x links g)).2=0:=Classical.byContradiction fun q=>q (by rw [layX_e2 he q]at hk;exact hk)
 have no:∀ D1 k,layTail D (Ch.nxt x.links) (encE g).1 (encL (linkX x links g)).1=(D1,k)→k=0:=fun D1 k q=>Classical.byContradiction fun z=>z (by rw [layX_e3 he he2 q z]at hk;exact hk)
 obtain ⟨D1,k1,h1⟩:∃ D1 k,writeX D graphT (encE g).1 (Ch.nameS (Ch.nxt x.links))=(D1,k):=⟨_,_,rfl⟩
 obtain rfl:k1=0:=Classical.byContradiction fun q=>q (no _ _ (layTail_1 h1 q))
 obtain ⟨D2,k2,h2⟩:∃ D2 k,writeX D1 chainT (encL (linkX x links g)).1 chainB=(D2,k):=⟨_,_,rfl⟩
 obtain rfl:k2=0:=Classical.byContradiction fun q=>q (no _ _ (layTail_2 h1 h2 q))
 obtain ⟨D3,k3,h3⟩:∃ D3 k,D2.syncNames=(D3,k):=⟨_,_,rfl⟩
 obtain rfl:k3=0:=no D3 k3 ((layTail_3 h1 h2).trans h3)
 exact xlay_ok h he he2 h1 h2 h3
theorem LayPost.back {w W w' : World} {S S2:Nat→Prop} {rx:Nat→Nat} {d p:Nat} {r:Dk×Ix×Nat} {e:Ending} (h:LayPost W S S2 rx d p r e w') (t:Turned (fun _=>False) w W) (hS:∀ b,S2 b→rx b≠0∨w.heap.size≤b):LayPost w S (fun _=>False) rx d p r e w':=by
 obtain ⟨h1,S',rx',lv',gv',a,b,c,e,f,g,i⟩:=h
 have z:=t.size
 exact ⟨h1,S',rx',lv',gv',a,fun x hx=>(b x hx).imp id fun q=>by omega,c,e,fun x hx=>(f x hx).elim .inl fun q=>q.elim (fun q=>(hS x q).imp id .inr) fun q=>.inr (.inr (by omega)),g,t.comp i fun i _ q=>q.elim False.elim id⟩
theorem newG_ok {s:St} {g:Stg} {base:Int} {known:List Int} (hb:0≤base∧base≤524288) (hg:goodStg g) (hsd:g.seed<4294967296):GrOk (newG s g base known):=by
 obtain ⟨h1,h2,h3,h4,h5,h6⟩:=hg
 exact ⟨⟨by simp only [newG];omega,by simp only [newG];omega⟩,⟨by simp only [newG];omega,by simp only [newG];omega⟩,⟨by simp only [newG];omega,by simp only [newG];omega⟩,⟨by simp only [newG];omega,by simp only [newG];omega⟩,hsd⟩
theorem readyE_zero {x:Ix} {s:St} {g:Stg} (h:readyE x s g=0):goodStg g∧x.len≤s.commits.length:=by
 unfold readyE at h
 split at h
 ·simp at h
 ·rename_i q
  rw [not_or]at q
  exact ⟨Classical.not_not.1 q.1,by omega⟩
theorem readyE_small (x:Ix) (s:St) (g:Stg):readyE x s g≤1:=by unfold readyE;split <;> omega
set_option maxHeartbeats 4000000 in
theorem xupdate_lays {w:World} {S:Nat→Prop} {rs rx:Nat→Nat} {d q p:Nat} {dv tv cv lv gv:Value} {D:Dk} {x:Ix} {s:St} (hD:FsIs w S d D) (hok:D.Ok) (hfew:Few D 800000000) (hsb:∀ b,S b→b<w.heap.size) (hs:StAt 140 w rs q dv tv cv s) (hgood:StGood s) (hx:IxAt w rx p (pt d) lv gv x) (hxok:IxOk x) (hlow:Ch.Low x.links)
  (hdis:∀ b,S b→rx b=0) (g:Stg) (hsd:g.seed<4294967296) (hk0:(updateX D x s g).2.2=0) (hcx:¬ (s.commits.length:Int)=x.len) (h8x:¬ 8≤x.links.length) (tab:∀ W,Turned (fun b=>S b∨b=p) w W→Ch.Tab W∧Ch.Errs W) :
  Calls Tryz.prog 18 #[pt p,.iface 34 (pt q),stgv g] w (LayPost w S (fun _=>False) rx d p (updateX D x s g)):=by
 obtain ⟨Z,hZ⟩:∃ Z,Z=LayPost w S (fun _=>False) rx d p (updateX D x s g):=⟨_,rfl⟩
 have HZ:Hid (Z=LayPost w S (fun _=>False) rx d p (updateX D x s g)):=hZ
 rw [←hZ]
 have m1:=meth_commits q
 obtain ⟨V,hV⟩:∃ V,V=w.alloc (.cells #[.int .i64 g.h,.int .i64 g.p,.int .i64 g.m,.int .u32 (g.seed:Nat)] 24):=⟨_,rfl⟩
 have HVV:Hid (V=w.alloc (.cells #[.int .i64 g.h,.int .i64 g.p,.int .i64 g.m,.int .u32 (g.seed:Nat)] 24)):=hV
 have tV:Turned (fun _=>False) w V:=by rw [hV];exact Turned.alloc _ _ _
 have xV:V.heap[w.heap.size]? = some (.cells #[.int .i64 g.h,.int .i64 g.p,.int .i64 g.m,.int .u32 (g.seed:Nat)] 24):=by rw [hV];exact heap_alloc_new _ _
 have HXV:Hid (∀ W,Turned (fun _=>False) V W→W.cell? ⟨w.heap.size,0,none⟩=some (.int .i64 g.h)∧W.cell? ⟨w.heap.size,1,none⟩=some (.int .i64 g.p)∧W.cell? ⟨w.heap.size,2,none⟩=some (.int .i64 g.m)∧W.cell? ⟨w.heap.size,3,none⟩=some (.int .u32 (g.seed:Nat))∧w.heap.size<W.heap.size):=fun W t=>by
  have h:=boxed xV t id
  exact ⟨cell_of h 0 _ rfl,cell_of h 1 _ rfl,cell_of h 2 _ rfl,cell_of h 3 _ rfl,lt_of_block h⟩
 have TV:Hid (Turned (fun _=>False) w V):=tV
 have HR:Hid (Calls Tryz.prog 61 #[pt p,.iface 34 (pt q),.agg #[.int .i64 g.h,.int .i64 g.p,.int .i64 g.m,.int .u32 (g.seed:Nat)]] V fun e w'=>e = .returned (.int .i64 (readyE x s g:Nat))∧Turned (fun _=>False) V w'):=xready_any (hx.turned tV fun _ _ z=>z) hxok (hs.turned tV fun _ _ z=>z) g
 have HC:Hid (∀ W,Turned (fun _=>False) V W→Calls Tryz.prog 30 #[pt q] W fun e w'=>e = .returned (.int .i64 (s.commits.length:Nat))∧W=w'):=fun W t=>scommits_any ((hs.turned tV fun _ _ z=>z).turned t fun _ _ z=>z)
 obtain ⟨v0,v1,v2,v3,v4⟩:=HXV.out V (Turned.refl _ _)
 have hsm:=readyE_small x s g
 obtain ⟨r,hr⟩:∃ r,r=readyE x s g:=⟨_,rfl⟩
 obtain ⟨C,hC⟩:∃ C,C=s.commits.length:=⟨_,rfl⟩
 rw [←hr]at HR hsm
 rw [←hC]at HC
 have hr0:r=0:=by
  apply Classical.byContradiction
  intro q
  have:updateX D x s g=(D,x,readyE x s g):=by unfold updateX;rw [if_pos (by rw [←hr];exact q)]
  rw [this]at hk0
  exact q (hr.trans hk0)
 subst hr0
 obtain ⟨hg,hlen⟩:=readyE_zero hr.symm
 have HL:Hid (∀ W,Turned (fun _=>False) V W→Calls Tryz.prog 15 #[pt p] W fun e w'=>e = .returned (.int .i64 x.len)∧Turned (fun _=>False) V w'∧Turned (fun _=>False) W w'):=fun W t=>(xlen_any ((hx.turned tV fun _ _ z=>z).turned t fun _ _ z=>z) hxok).mono fun e w' ⟨a,b⟩=>⟨a,t.trans b fun _ _ z=>z,b⟩
 have hxl:0≤x.len∧x.len≤524288:=by
  have:=tot_take hxok x.links.length
  rw [List.take_length]at this
  exact this
 have hgl:=gensX_len hxok
 obtain ⟨xl,hxn⟩:∃ xl,xl=x.len:=⟨_,rfl⟩
 rw [←hxn]at HL hgl hlen hxl
 have hc0:¬ (C:Int)=xl:=by rw [hC,hxn];exact hcx
 have d1:((C:Int) == xl)=false:=by simp [hc0]
 obtain ⟨xa,xc,hlv,hln⟩:=Ch.sl_lnIs hx.links (LnOk.of hxok)
 subst hlv
 obtain ⟨gvs,hgs,hgat⟩:=hx.graphs
 obtain ⟨ga,gc,rfl,-,-⟩:=hgs.value
 obtain ⟨nl,hnl⟩:∃ nl,nl=x.links.length:=⟨_,rfl⟩
 obtain ⟨gl,hgn⟩:∃ gl,gl=x.graphs.length:=⟨_,rfl⟩
 have HPX:Hid (∀ W,Turned (fun _=>False) V W→W.cell? ⟨p,1,none⟩=some (.slice xa nl xc)∧W.cell? ⟨p,2,none⟩=some (.slice ga gl gc)∧p<W.heap.size):=fun W t=>by
  have h:=boxed (boxed hx.blk tV id) t id
  rw [hnl,hgn]
  exact ⟨cell_of h 1 _ rfl,cell_of h 2 _ rfl,lt_of_block h⟩
 have hn8:=hxok.many
 rw [←hnl]at hn8
 have h8:¬ 8≤nl:=by rw [hnl];exact h8x
 have HE:Hid (updateX D x s g=layX D x x.links x.graphs (newG s g x.len (gensX x))):=hidS (by unfold updateX;rw [if_neg (by rw [←hr];simp),if_neg (by rw [←hC,←hxn];exact hc0),if_neg (by rw [←hnl];exact h8)])
 have hk:(layX D x x.links x.graphs (newG s g x.len (gensX x))).2.2=0:=by rw [HE.out]at hk0;exact hk0
 have e1:decide ((8:Int)≤(nl:Int))=false:=by simp;omega
 have e2:decide (8≤nl)=false:=by simp;omega
 obtain ⟨G,hG⟩:∃ G,G=gensX x:=⟨_,rfl⟩
 obtain ⟨gk,hgk⟩:∃ gk,gk=G.length:=⟨_,rfl⟩
 have hgx:(gk:Int)=xl:=by rw [hgk,hG];exact hgl
 have HGN:Hid (∀ W,Turned (fun _=>False) V W→Calls Tryz.prog 64 #[pt p] W fun e w'=>∃ a c,e = .returned (.slice a gk c)∧Sl w' (fun b=>V.heap.size≤b) 3 1 (.slice a gk c) (ic G) gk∧Turned (fun _=>False) V w'):=fun W t=>by
  refine (xgens_any ((hx.turned tV fun _ _ z=>z).turned t fun _ _ z=>z) hxok).mono fun e w' ⟨v,a,b,c⟩=>?_
  rw [←hG,←hgk]at b
  obtain ⟨a',c',rfl,-,-⟩:=b.value
  exact ⟨a',c',a,b.widen fun y hy=>Nat.le_trans t.size hy,t.trans c fun _ _ z=>z⟩
 obtain ⟨R,hR⟩:∃ R,R=rowsX s g (s.commits.length - G.length) G:=⟨_,rfl⟩
 obtain ⟨K,hK⟩:∃ K,K=R.length:=⟨_,rfl⟩
 have hRl:R.length=C - gk:=by rw [hR,rowsX_len,hC,hgk]
 have hCl:C≤65536:=by rw [hC];exact hgood.commits
 have HBX:Hid (∀ W w4,Turned (fun _=>False) V W→Turned (fun b=>S b∨b=p) W w4→w4.cell? ⟨w.heap.size,0,none⟩=some (.int .i64 g.h)∧w4.cell? ⟨w.heap.size,1,none⟩=some (.int .i64 g.p)∧w4.cell? ⟨w.heap.size,2,none⟩=some (.int .i64 g.m)∧w4.cell? ⟨w.heap.size,3,none⟩=some (.int .u32 (g.seed:Nat))):=fun W w4 t t4=>by
  have h:=boxed (boxed xV t id) t4 (fun z=>z.elim (fun z=>by have:=hsb _ z;omega) fun z=>by have:=lt_of_block hx.blk;omega)
  exact ⟨cell_of h 0 _ rfl,cell_of h 1 _ rfl,cell_of h 2 _ rfl,cell_of h 3 _ rfl⟩
 have HRW:Hid (∀ W ka kc,Turned (fun _=>False) V W→Sl W (fun b=>V.heap.size≤b) 3 1 (.slice ka gk kc) (ic G) gk→Calls Tryz.prog 63 #[.iface 34 (pt q),.agg #[.int .i64 g.h,.int .i64 g.p,.int .i64 g.m,.int .u32 (g.seed:Nat)],.slice ka gk kc] W fun e w'=>∃ a c S2,e = .returned (.slice a K c)∧RwIs w' S2 a c R∧(∀ b,S2 b→V.heap.size≤b∧b<w'.heap.size)∧Turned (fun _=>False) V w'):=fun W ka kc t hk=>by
  rw [hgk]at hk
  refine hgk ▸ (xrows_any ((hs.turned tV fun _ _ z=>z).turned t fun _ _ z=>z) hgood g hg hsd (known:=G) hk (hG ▸ gensX_ok hxok) (by omega)).mono fun e w' ⟨v,S2,S3,a,b,c,f,i,j⟩=>?_
  have hzz:=t.size
  obtain ⟨a',c',rfl,hri⟩:=b.is
  rw [←hR]at a hri
  rw [←hK]at a
  exact ⟨a',c',fun b=>S2 b∨S3 b,a,hri,fun b hb=>⟨hb.elim (fun z=>Nat.le_trans hzz (c b z)) fun z=>Nat.le_trans hzz (f b z),i b hb⟩,t.trans j fun _ _ z=>z⟩
 have HLY:Hid (∀ W a c S2,Turned (fun _=>False) V W→RwIs W S2 a c R→(∀ b,S2 b→V.heap.size≤b∧b<W.heap.size)→Calls Tryz.prog 62 #[pt p,.slice xa nl xc,.slice ga gl gc,.agg #[.int .i64 xl,.int .i64 g.h,.int .i64 g.p,.int .i64 g.m,.int .u32 (g.seed:Nat),.slice a K c]] W fun e w'=>LayPost w S (fun _=>False) rx d p (layX D x x.links x.graphs (newG s g x.len (gensX x))) e w'∧Turned (fun b=>S b∨b=p) W w'):=fun W a c S2 t hri hb=>by
  have tW:=tV.trans t fun _ _ z=>z
  have zV:=tV.size
  have hv:=lt_of_block xV
  have hRn:(newG s g x.len (gensX x)).rows=R:=by rw [hR,hG];rfl
  have hd4:∀ b,rx b=4∨S2 b→¬ S b∧¬ b=p∧b<W.heap.size:=fun b z=>by
   rcases z with z|z
   ·exact ⟨fun y=>by have:=hdis b y;omega,fun y=>by rw [y,hx.r1]at z;simp at z,Nat.lt_of_lt_of_le (hx.bnd b (by omega)) tW.size⟩
   ·exact ⟨fun y=>by have:=hsb b y;have:=(hb b z).1;omega,fun y=>by have:=lt_of_block hx.blk;have:=(hb b z).1;omega,(hb b z).2⟩
  have hin:LayIn W S rx d p (.slice xa x.links.length xc) (.slice ga x.graphs.length gc) D x (fun b=>rx b=2) (fun b=>rx b=3) (fun b=>rx b=4∨S2 b) xa xc x.links ga gc x.graphs gvs a c (newG s g x.len (gensX x)):=
   ⟨hD.turned tW fun _ _ z=>z,hok,hfew,fun b z=>Nat.lt_of_lt_of_le (hsb b z) tW.size,hx.turned tW fun _ _ z=>z,hxok,hlow,hdis,hx.links.turned tW fun _ _ z=>z,LnOk.of hxok,hxok.many,hgs.turned tW fun _ _ z=>z,fun i y hi=>?_,by rw [hxok.both];exact hxok.many,by rw [hRn];exact hri.mono fun b z=>.inr z,newG_ok (by rw [←hxn];exact hxl) hg hsd,by rw [hRn,hRl];omega,
    fun b z y=>by have:=hdis b y;omega,fun b z=>⟨fun y=>by have:=hdis b y;omega,fun y=>by rw [y,hx.r1]at z;simp at z⟩,hd4,fun X tX=>tab X (tW.comp tX fun i _ z=>z.elim False.elim id)⟩
  ·have := xlay_fine hin hk
   unfold grv at this
   rw [hRn,←hK,←hnl,←hgn]at this
   rw [hxn]
   exact this.mono fun e w' y=>⟨y.back tW fun b z=>z.elim (fun z=>.inl (by omega)) fun z=>.inr (by have:=(hb b z).1;omega),by obtain ⟨_,_,_,_,_,_,_,_,_,_,_,z⟩:=y;exact z⟩
  ·obtain ⟨a', cap, e0, e1, e2, e3, e4, e5, e6, e7⟩ := hgat i y hi
   exact ⟨a',cap,e0,e1,e2,e3,e4,e5,e6,(e7.turned tW fun _ _ z=>z).mono fun b z=>.inl z⟩
 clear hk0 hcx h8x hk hZ hV tV xV hD hok hfew hsb hs hgood hx hxok hlow hdis hsd tab hr hC hg hlen hsm hxl hgl hxn hc0 hln hgs hgat hnl hgn hn8 h8 hR hK hRl hCl hG hgk hgx
 go_enter Tryz.func18,Tryz.ntmps18
 go_wp2_with fail
 rw [←HVV.out]
 go_wp2_with (first
  |(go_at_call 61;(with_reducible refine HR.out.mono ?_);rintro e w1 ⟨rfl,q1⟩;obtain ⟨u0,u1,u2,u3,u4⟩:=HXV.out w1 q1;replace q1:Hid _:=hidS q1)
  |(go_at_call 30;(with_reducible refine (HC.out _ q1.out).mono ?_);rintro e w2 ⟨rfl,rfl⟩)
  |(go_at_call 15;(with_reducible refine (HL.out _ q1.out).mono ?_);rintro e w2 ⟨rfl,q2,-⟩;obtain ⟨s0,s1,s2,s3,s4⟩:=HXV.out w2 q2;obtain ⟨p1,p2,p3⟩:=HPX.out w2 q2;replace q2:Hid _:=hidS q2))
 have HSS:Hid (∀ W,Turned (fun _=>False) V W→W.cell? ⟨w.heap.size,0,none⟩=some (.int .i64 g.h)∧W.cell? ⟨w.heap.size,1,none⟩=some (.int .i64 g.p)∧W.cell? ⟨w.heap.size,2,none⟩=some (.int .i64 g.m)∧W.cell? ⟨w.heap.size,3,none⟩=some (.int .u32 (g.seed:Nat))∧W.cell? ⟨p,1,none⟩=some (.slice xa nl xc)∧W.cell? ⟨p,2,none⟩=some (.slice ga gl gc)):=fun W t=>by
  obtain ⟨a0,a1,a2,a3,-⟩:=HXV.out W t
  obtain ⟨b1,b2,-⟩:=HPX.out W t
  exact ⟨a0,a1,a2,a3,b1,b2⟩
 have Q0:Hid (Turned (fun _=>False) V w2.drew):=hidS q2.out.draw
 clear v0 v1 v2 v3 v4 u0 u1 u2 u3 u4 s0 s1 s2 s3 s4 p1 p2 p3
 refine region_E 18 (fun W=>W.cell? ⟨w.heap.size,0,none⟩=some (.int .i64 g.h)∧W.cell? ⟨w.heap.size,1,none⟩=some (.int .i64 g.p)∧W.cell? ⟨w.heap.size,2,none⟩=some (.int .i64 g.m)∧W.cell? ⟨w.heap.size,3,none⟩=some (.int .u32 (g.seed:Nat))∧W.cell? ⟨p,1,none⟩=some (.slice xa nl xc)∧W.cell? ⟨p,2,none⟩=some (.slice ga gl gc)) (by kernel_rfl) ?_
 have hS0:=HSS.out _ Q0.out
 refine anyE_take0 (i:=0) (o:={ dst:=some 32,op:=Op.move (Operand.tmp 0),type:=26,pos := "accel.go:173",after:=#[],guard:=none }) (v:=?_) rfl (by kernel_rfl) (by kernel_rfl) (by kernel_rfl) (by decide) (fun _ _ _ h=>h) (Or.inl ⟨by rfl,?_⟩) (.inr hS0) ?_
 rotate_left
 ·intro w9 hSw;go_simp;try with_reducible rfl
 try simp only [Act.put,List.setIfInBounds_toArray,List.set_cons_zero,List.set_cons_succ]
 refine anyE_take0 (i:=1) (o:={ dst:=some 33,op:=Op.move (Operand.tmp 0),type:=26,pos := "accel.go:173",after:=#[],guard:=none }) (v:=?_) rfl (by kernel_rfl) (by kernel_rfl) (by kernel_rfl) (by decide) (fun _ _ _ h=>h) (Or.inl ⟨by rfl,?_⟩) (.inr hS0) ?_
 rotate_left
 ·intro w9 hSw;go_simp;try with_reducible rfl
 try simp only [Act.put,List.setIfInBounds_toArray,List.set_cons_zero,List.set_cons_succ]
 refine anyE_take0 (i:=2) (o:={ dst:=some 34,op:=Op.nilCheck (Operand.tmp 33),type:=0,pos := "accel.go:173",after:=#[{ on:=1,ground:=Ground.data }],guard:=none }) (v:=?_) rfl (by kernel_rfl) (by kernel_rfl) (by kernel_rfl) (by decide) (fun _ _ _ h=>h) (Or.inl ⟨by rfl,?_⟩) (.inr hS0) ?_
 rotate_left
 ·intro w9 hSw;go_simp;try with_reducible rfl
 try simp only [Act.put,List.setIfInBounds_toArray,List.set_cons_zero,List.set_cons_succ]
 refine anyE_take0 (i:=3) (o:={ dst:=some 35,op:=Op.fieldAddr 116 (Operand.tmp 34) 1,type:=0,pos := "accel.go:173",after:=#[{ on:=2,ground:=Ground.data }],guard:=none }) (v:=?_) rfl (by kernel_rfl) (by kernel_rfl) (by kernel_rfl) (by decide) (fun _ _ _ h=>h) (Or.inl ⟨by rfl,?_⟩) (.inr hS0) ?_
 rotate_left
 ·intro w9 hSw;go_simp;try with_reducible rfl
 try simp only [Act.put,List.setIfInBounds_toArray,List.set_cons_zero,List.set_cons_succ]
 refine anyE_take (i:=4) (o:={ dst:=some 36,op:=Op.load 113 (Operand.tmp 35),type:=113,pos := "accel.go:173",after:=#[{ on:=3,ground:=Ground.data }],guard:=none }) (v:=?_) rfl (by kernel_rfl) (by kernel_rfl) (by kernel_rfl) (.inl (by kernel_rfl)) (by kernel_rfl) (fun _ _ _ h=>h) (Or.inl ⟨by rfl,?_⟩) hS0 ?_
 rotate_left
 ·intro w9 hSw;(try dsimp only at hSw);obtain ⟨s0,s1,s2,s3,s4,s5⟩:=hSw;go_simp;try with_reducible rfl
 try simp only [Act.put,List.setIfInBounds_toArray,List.set_cons_zero,List.set_cons_succ]
 refine anyE_take0 (i:=5) (o:={ dst:=some 37,op:=Op.move (Operand.tmp 0),type:=26,pos := "accel.go:173",after:=#[],guard:=none }) (v:=?_) rfl (by kernel_rfl) (by kernel_rfl) (by kernel_rfl) (by decide) (fun _ _ _ h=>h) (Or.inl ⟨by rfl,?_⟩) (.inr hS0) ?_
 rotate_left
 ·intro w9 hSw;go_simp;try with_reducible rfl
 try simp only [Act.put,List.setIfInBounds_toArray,List.set_cons_zero,List.set_cons_succ]
 refine anyE_take0 (i:=6) (o:={ dst:=some 38,op:=Op.nilCheck (Operand.tmp 37),type:=0,pos := "accel.go:173",after:=#[{ on:=5,ground:=Ground.data }],guard:=none }) (v:=?_) rfl (by kernel_rfl) (by kernel_rfl) (by kernel_rfl) (by decide) (fun _ _ _ h=>h) (Or.inl ⟨by rfl,?_⟩) (.inr hS0) ?_
 rotate_left
 ·intro w9 hSw;go_simp;try with_reducible rfl
 try simp only [Act.put,List.setIfInBounds_toArray,List.set_cons_zero,List.set_cons_succ]
 refine anyE_take0 (i:=7) (o:={ dst:=some 39,op:=Op.fieldAddr 116 (Operand.tmp 38) 2,type:=0,pos := "accel.go:173",after:=#[{ on:=6,ground:=Ground.data }],guard:=none }) (v:=?_) rfl (by kernel_rfl) (by kernel_rfl) (by kernel_rfl) (by decide) (fun _ _ _ h=>h) (Or.inl ⟨by rfl,?_⟩) (.inr hS0) ?_
 rotate_left
 ·intro w9 hSw;go_simp;try with_reducible rfl
 try simp only [Act.put,List.setIfInBounds_toArray,List.set_cons_zero,List.set_cons_succ]
 refine anyE_take (i:=8) (o:={ dst:=some 40,op:=Op.load 114 (Operand.tmp 39),type:=114,pos := "accel.go:173",after:=#[{ on:=7,ground:=Ground.data }],guard:=none }) (v:=?_) rfl (by kernel_rfl) (by kernel_rfl) (by kernel_rfl) (.inl (by kernel_rfl)) (by kernel_rfl) (fun _ _ _ h=>h) (Or.inl ⟨by rfl,?_⟩) hS0 ?_
 rotate_left
 ·intro w9 hSw;(try dsimp only at hSw);obtain ⟨s0,s1,s2,s3,s4,s5⟩:=hSw;go_simp;try with_reducible rfl
 try simp only [Act.put,List.setIfInBounds_toArray,List.set_cons_zero,List.set_cons_succ]
 refine anyE_take0 (i:=9) (o:={ dst:=some 41,op:=Op.move (Operand.tmp 0),type:=26,pos := "accel.go:173",after:=#[],guard:=none }) (v:=?_) rfl (by kernel_rfl) (by kernel_rfl) (by kernel_rfl) (by decide) (fun _ _ _ h=>h) (Or.inl ⟨by rfl,?_⟩) (.inr hS0) ?_
 rotate_left
 ·intro w9 hSw;go_simp;try with_reducible rfl
 try simp only [Act.put,List.setIfInBounds_toArray,List.set_cons_zero,List.set_cons_succ]
 refine anyE_take (i:=11) (o:={ dst:=some 43,op:=Op.load 24 (Operand.tmp 5),type:=24,pos := "accel.go:173",after:=#[],guard:=none }) (v:=?_) rfl (by kernel_rfl) (by kernel_rfl) (by kernel_rfl) (.inr ⟨17,by kernel_rfl,by kernel_rfl,by kernel_rfl⟩) (by kernel_rfl) (fun _ _ _ h=>h) (Or.inl ⟨by rfl,?_⟩) hS0 ?_
 rotate_left
 ·intro w9 hSw;(try dsimp only at hSw);obtain ⟨s0,s1,s2,s3,s4,s5⟩:=hSw;go_simp;try with_reducible rfl
 try simp only [Act.put,List.setIfInBounds_toArray,List.set_cons_zero,List.set_cons_succ]
 refine anyE_take0 (i:=12) (o:={ dst:=some 44,op:=Op.move (Operand.tmp 1),type:=133,pos := "accel.go:173",after:=#[],guard:=none }) (v:=?_) rfl (by kernel_rfl) (by kernel_rfl) (by kernel_rfl) (by decide) (fun _ _ _ h=>h) (Or.inl ⟨by rfl,?_⟩) (.inr hS0) ?_
 rotate_left
 ·intro w9 hSw;go_simp;try with_reducible rfl
 try simp only [Act.put,List.setIfInBounds_toArray,List.set_cons_zero,List.set_cons_succ]
 refine anyE_take (i:=13) (o:={ dst:=some 45,op:=Op.load 24 (Operand.tmp 5),type:=24,pos := "accel.go:173",after:=#[],guard:=none }) (v:=?_) rfl (by kernel_rfl) (by kernel_rfl) (by kernel_rfl) (.inr ⟨16,by kernel_rfl,by kernel_rfl,by kernel_rfl⟩) (by kernel_rfl) (fun _ _ _ h=>h) (Or.inl ⟨by rfl,?_⟩) hS0 ?_
 rotate_left
 ·intro w9 hSw;(try dsimp only at hSw);obtain ⟨s0,s1,s2,s3,s4,s5⟩:=hSw;go_simp;try with_reducible rfl
 try simp only [Act.put,List.setIfInBounds_toArray,List.set_cons_zero,List.set_cons_succ]
 refine anyE_take0 (i:=14) (o:={ dst:=some 46,op:=Op.move (Operand.tmp 0),type:=26,pos := "accel.go:173",after:=#[],guard:=none }) (v:=?_) rfl (by kernel_rfl) (by kernel_rfl) (by kernel_rfl) (by decide) (fun _ _ _ h=>h) (Or.inl ⟨by rfl,?_⟩) (.inr hS0) ?_
 rotate_left
 ·intro w9 hSw;go_simp;try with_reducible rfl
 try simp only [Act.put,List.setIfInBounds_toArray,List.set_cons_zero,List.set_cons_succ]
 refine anyE_ready (rs:=[10]) (by kernel_rfl) (by simp) ?_
 refine allE_cons (o:={ dst:=some 42,op:=Op.call { callee:=Callee.value (Operand.func 15),args:=#[Operand.tmp 41],argTypes:=#[26] },type:=3,pos := "accel.go:173",after:=#[{ on:=9,ground:=Ground.data }],guard:=none }) rfl (fun K hK=>?_) allE_nil
 ·(go_simp; go_at_call 15; (with_reducible refine (HL.out _ Q0.out).mono ?_); rintro e wx ⟨rfl, qx, qy⟩; refine hK.out _ _ (.inr (.inr (HSS.out _ qx))) ?_; have Q0 : Hid _ := hidS qx; have hS0 := HSS.out _ qx; clear qx qy hK K)
  try simp only [Act.put,List.setIfInBounds_toArray,List.set_cons_zero,List.set_cons_succ]
  refine anyE_ready (rs:=[15]) (by kernel_rfl) (by simp) ?_
  refine allE_cons (o:={ dst:=some 47,op:=Op.call { callee:=Callee.value (Operand.func 64),args:=#[Operand.tmp 46],argTypes:=#[26] },type:=41,pos := "accel.go:173",after:=#[{ on:=14,ground:=Ground.data },{ on:=10,ground:=Ground.chain }],guard:=none }) rfl (fun K hK=>?_) allE_nil
  ·(go_simp; go_at_call 64; (with_reducible refine (HGN.out _ Q0.out).mono ?_); rintro e wx ⟨ga3, gc3, rfl, gs3, qx⟩; refine hK.out _ _ (.inr (.inr (HSS.out _ qx))) ?_; have G3 : Hid _ := hidS gs3; clear gs3; have Q0 : Hid _ := hidS qx; have hS0 := HSS.out _ qx; clear qx hK K)
   try simp only [Act.put,List.setIfInBounds_toArray,List.set_cons_zero,List.set_cons_succ]
   refine anyE_ready (rs:=[16]) (by kernel_rfl) (by simp) ?_
   refine allE_cons (o:={ dst:=some 48,op:=Op.call { callee:=Callee.value (Operand.func 63),args:=#[Operand.tmp 44,Operand.tmp 45,Operand.tmp 47],argTypes:=#[133,24,41] },type:=121,pos := "accel.go:173",after:=#[{ on:=12,ground:=Ground.data },{ on:=13,ground:=Ground.data },{ on:=15,ground:=Ground.data },{ on:=15,ground:=Ground.chain }],guard:=none }) rfl (fun K hK=>?_) allE_nil
   ·(go_simp; go_at_call 63; (with_reducible refine (HRW.out _ ga3 gc3 Q0.out G3.out).mono ?_); rintro e wx ⟨ra3, rc3, S3, rfl, ri3, rb3, qx⟩; refine hK.out _ _ (.inr (.inr (HSS.out _ qx))) ?_; have R3 : Hid _ := hidS (And.intro ri3 rb3); clear ri3 rb3; have Q0 : Hid _ := hidS qx; have hS0 := HSS.out _ qx; clear qx hK K)
    try simp only [Act.put,List.setIfInBounds_toArray,List.set_cons_zero,List.set_cons_succ]
    refine anyE_take0 (i:=17) (o:={ dst:=some 49,op:=Op.build 123 #[(0,Operand.tmp 42),(1,Operand.tmp 43),(2,Operand.tmp 48)],type:=123,pos := "accel.go:173",after:=#[{ on:=10,ground:=Ground.data },{ on:=11,ground:=Ground.data },{ on:=16,ground:=Ground.data }],guard:=none }) (v:=?_) rfl (by kernel_rfl) (by kernel_rfl) (by kernel_rfl) (by decide) (fun _ _ _ h=>h) (Or.inl ⟨by rfl,?_⟩) (.inr hS0) ?_
    rotate_left
    ·intro w9 hSw;go_simp;try with_reducible rfl
    try simp only [Act.put,List.setIfInBounds_toArray,List.set_cons_zero,List.set_cons_succ]
    refine anyE_ready (rs:=[18]) (by kernel_rfl) (by simp) ?_
    refine allE_cons (o:={ dst:=some 50,op:=Op.call { callee:=Callee.value (Operand.func 62),args:=#[Operand.tmp 32,Operand.tmp 36,Operand.tmp 40,Operand.tmp 49],argTypes:=#[26,113,114,123] },type:=27,pos := "accel.go:173",after:=#[{ on:=0,ground:=Ground.data },{ on:=4,ground:=Ground.data },{ on:=8,ground:=Ground.data },{ on:=17,ground:=Ground.data },{ on:=16,ground:=Ground.chain }],guard:=none }) rfl (fun K hK=>?_) allE_nil
    (go_simp;go_at_call 62;(with_reducible refine (HLY.out _ ra3 rc3 S3 Q0.out R3.out.1 R3.out.2).mono ?_);rintro e w4 ⟨⟨rfl,y4⟩,-⟩;refine hK.out _ _ (.inr (.inl rfl)) ?_;replace y4:Hid _:=hidS y4;clear hK K)
    try simp only [Act.put,List.setIfInBounds_toArray,List.set_cons_zero,List.set_cons_succ]
    refine anyE_take0 (i:=19) (o:={ dst:=some 6,op:=Op.assign (Operand.tmp 50),type:=27,pos := "accel.go:173",after:=#[{ on:=18,ground:=Ground.data },{ on:=18,ground:=Ground.chain },{ on:=0,ground:=Ground.phase },{ on:=1,ground:=Ground.phase },{ on:=2,ground:=Ground.phase },{ on:=3,ground:=Ground.phase },{ on:=4,ground:=Ground.phase },{ on:=5,ground:=Ground.phase },{ on:=6,ground:=Ground.phase },{ on:=7,ground:=Ground.phase },{ on:=8,ground:=Ground.phase },{ on:=9,ground:=Ground.phase },{ on:=10,ground:=Ground.phase },{ on:=11,ground:=Ground.phase },{ on:=12,ground:=Ground.phase },{ on:=13,ground:=Ground.phase },{ on:=14,ground:=Ground.phase },{ on:=15,ground:=Ground.phase },{ on:=16,ground:=Ground.phase },{ on:=17,ground:=Ground.phase },{ on:=18,ground:=Ground.phase }],guard:=none }) (v:=?_) rfl (by kernel_rfl) (by kernel_rfl) (by kernel_rfl) (by decide) (fun _ _ _ h=>h) (Or.inl ⟨by rfl,?_⟩) (.inl (by kernel_rfl)) ?_
    rotate_left
    ·intro w9 hSw;go_simp;try with_reducible rfl
    try simp only [Act.put,List.setIfInBounds_toArray,List.set_cons_zero,List.set_cons_succ]
    refine anyE_done (by kernel_rfl) ?_ _
    go_wp2
    rw [HZ.out,HE.out]
    exact ⟨rfl,y4.out⟩
end Go.Proofs.YtofcogekgcgjhaaGreatDoor
