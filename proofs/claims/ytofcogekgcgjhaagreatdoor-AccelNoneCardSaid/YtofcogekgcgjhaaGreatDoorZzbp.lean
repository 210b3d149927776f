/- Packed. -/
import Derived.Test.YtofcogekgcgjhaaGreatDoorZzbo
set_option linter.unusedVariables false
set_option linter.unusedSimpArgs false
set_option maxRecDepth 100000
namespace Go.Proofs.YtofcogekgcgjhaaGreatDoor
open Go.RowKit Go.Mine Go.Mine.Ac
set_option maxHeartbeats 8000000 in
theorem xlay_ok {w:World} {S SL SG SR:Nat→Prop} {rx:Nat→Nat} {d p:Nat} {lv gv:Value} {D:Dk} {x:Ix} {la ga ra:Option Addr} {lc gc rc:Nat} {links:List Ch.Ln} {graphs:List Gr} {gvs:List Value} {g:Gr} (h:LayIn w S rx d p lv gv D x SL SG SR la lc links ga gc graphs gvs ra rc g) (he:(encE g).2=0) (he2:(encL (linkX x links g)).2=0) {D1 D2 D3:Dk} (h1:writeX D graphT (encE g).1 (Ch.nameS (Ch.nxt x.links))=(D1,0)) (h2:writeX D1 chainT (encL (linkX x links g)).1 chainB=(D2,0)) (h3:D2.syncNames=(D3,0)) :
  Calls Tryz.prog 62 #[pt p,.slice la links.length lc,.slice ga graphs.length gc,grv ra rc g] w (LayPost w S SR rx d p (layX D x links graphs g)):=by
 rw [layX_ok he he2 ((layTail_3 h1 h2).trans h3)]
 obtain ⟨Z,hZ⟩:∃ Z,Z=LayPost w S SR rx d p (sweepX (linkX x links g) D3.names D3,⟨linkX x links g,graphs ++ [g]⟩,0):=⟨_,rfl⟩
 have HZ:Hid (Z=LayPost w S SR rx d p (sweepX (linkX x links g) D3.names D3,⟨linkX x links g,graphs ++ [g]⟩,0)):=hZ
 rw [←hZ]
 obtain ⟨V,hV⟩:∃ V,V=w.alloc (.cells #[.int .i64 g.base,.int .i64 g.h,.int .i64 g.p,.int .i64 g.m,.int .u32 (g.seed:Nat),.slice ra g.rows.length rc] 123):=⟨_,rfl⟩
 have HVV:Hid (V=w.alloc (.cells #[.int .i64 g.base,.int .i64 g.h,.int .i64 g.p,.int .i64 g.m,.int .u32 (g.seed:Nat),.slice ra g.rows.length rc] 123)):=hV
 have tV:Turned (fun _=>False) w V:=by rw [hV];exact Turned.alloc _ _ _
 have xV:V.heap[w.heap.size]? = some (.cells #[.int .i64 g.base,.int .i64 g.h,.int .i64 g.p,.int .i64 g.m,.int .u32 (g.seed:Nat),.slice ra g.rows.length rc] 123):=by rw [hV];exact heap_alloc_new _ _
 have hsz:=encE_size g
 have HEN:Hid (Calls Tryz.prog 132 #[.agg #[.int .i64 g.base,.int .i64 g.h,.int .i64 g.p,.int .i64 g.m,.int .u32 (g.seed:Nat),.slice ra g.rows.length rc]] V fun e w'=>e = .returned (.tuple #[.string (encE g).1,.int .i64 0])∧Turned (fun _=>False) V w'):=by
  have:=encode_any SR ra rc g V (h.rows.turned tV fun _ _ z=>z) h.gok
  rw [encG_eq,he]at this
  exact this
 have c0:V.cell? ⟨w.heap.size,0,none⟩=some (.int .i64 g.base):=cell_of xV 0 _ rfl
 have c1:V.cell? ⟨w.heap.size,1,none⟩=some (.int .i64 g.h):=cell_of xV 1 _ rfl
 have c2:V.cell? ⟨w.heap.size,2,none⟩=some (.int .i64 g.p):=cell_of xV 2 _ rfl
 have c3:V.cell? ⟨w.heap.size,3,none⟩=some (.int .i64 g.m):=cell_of xV 3 _ rfl
 have c4:V.cell? ⟨w.heap.size,4,none⟩=some (.int .u32 (g.seed:Nat)):=cell_of xV 4 _ rfl
 have c5:V.cell? ⟨w.heap.size,5,none⟩=some (.slice ra g.rows.length rc):=cell_of xV 5 _ rfl
 have hlt:=lt_of_block xV
 obtain ⟨nx,hnx⟩:∃ nx,nx=Ch.nxt x.links:=⟨_,rfl⟩
 obtain ⟨T,hT⟩:∃ T,T=(encE g).1:=⟨_,rfl⟩
 obtain ⟨sm,hsm⟩:∃ sm,sm=Crc.sum (nums T):=⟨_,rfl⟩
 have hlk:linkX x links g=links ++ [(nx,(g.rows.length:Int),sm)]:=by unfold linkX;rw [←hnx,←hT,←hsm]
 rw [←hT]at HEN
 obtain ⟨xa,xc,hlv,hln⟩:=Ch.sl_lnIs h.ix.links (LnOk.of h.ixok)
 subst hlv
 have p1:w.cell? ⟨p,1,none⟩=some (.slice xa x.links.length xc):=cell_of h.ix.blk 1 _ rfl
 have p1V:=cell_at p1 tV id
 have HPX:Hid (∀ W,Turned (fun _=>False) V W→W.cell? ⟨p,1,none⟩=some (.slice xa x.links.length xc)∧p<W.heap.size):=fun W t=>⟨cell_at p1V t id,Nat.lt_of_lt_of_le (lt_of_block h.ix.blk) (Nat.le_trans tV.size t.size)⟩
 have HNX:Hid (∀ W,Turned (fun _=>False) V W→Calls Tryz.prog 133 #[.slice xa x.links.length xc] W fun e w'=>e = .returned (.int .i64 nx)∧Turned (fun _=>False) V w'):=fun W t=>by
  rw [hnx]
  exact (Ch.next_any xa xc x.links W ((hln.turned tV).turned t) (by have:=h.ixok.many;omega) h.low).mono fun e w' ⟨a,b⟩=>⟨a,t.trans b fun _ _ z=>z⟩
 obtain ⟨nl,hnl⟩:∃ nl,nl=links.length:=⟨_,rfl⟩
 have HCL:Hid (∀ W,Turned (fun _=>False) V W→Calls Tryz.prog 134 #[.slice la nl lc] W fun e w'=>∃ a c,e = .returned (.slice a nl c)∧Sl w' (fun b=>V.heap.size≤b) 120 3 (.slice a nl c) (Ch.lcells links) nl∧Turned (fun _=>False) V w'∧Turned (fun _=>False) W w'):=fun W t=>by
  rw [hnl]
  have hl:=(h.ls.turned tV fun _ _ z=>z).turned t fun _ _ z=>z
  refine (clone_links W (fun w' t'=>(hl.turned t' fun _ _ z=>z).src Tryz.underlying113 (lcells_one _)) (sl_none hl) (by have:=h.lmany;omega)).mono fun e w' ⟨v,a,b,c⟩=>?_
  obtain ⟨ca,cc,rfl,-,-⟩:=b.value
  exact ⟨ca,cc,a,b.widen fun x hx=>Nat.le_trans t.size hx,t.trans c fun _ _ z=>z,c⟩
 have HSM:Hid (∀ W b,Turned (fun _=>False) V W→W.heap[b]? = some (.cells #[.string T] 9)→Calls Tryz.prog 124 #[.slice (some ⟨b,0,none⟩) 1 1] W fun e w'=>e = .returned (.int .u32 (sm:Nat))∧Turned (fun _=>False) V w'∧Turned (fun _=>False) W w'):=fun W b t hb=>by
  rw [hsm]
  exact (sum_one b 0 1 T W (cell_of hb 0 _ rfl) (lt_of_block hb) (by rw [hT];omega)).mono fun e w' ⟨a,q⟩=>⟨a,t.trans q fun _ _ z=>z,q⟩
 have TV:Hid (Turned (fun _=>False) w V∧w.heap.size<V.heap.size):=⟨tV,hlt⟩
 have HXV:Hid (∀ W (Q:Nat→Prop),Turned Q V W→¬ Q w.heap.size→W.cell? ⟨w.heap.size,5,none⟩=some (.slice ra g.rows.length rc)∧w.heap.size<W.heap.size):=fun W Q t z=>⟨cell_at c5 t z,Nat.lt_of_lt_of_le hlt t.size⟩
 have HH:Hid _:=hidS h
 obtain ⟨K,hK⟩:∃ K,K=g.rows.length:=⟨_,rfl⟩
 rw [←hK]at c5 HXV HEN hlk HVV
 have HLK:Hid (linkX x links g=links ++ [(nx,(K:Int),sm)]∧nl=links.length∧K=g.rows.length):=⟨hlk,hnl,hK⟩
 have m1:Hid (nl+1≤maxLen∧(nl+1) * 24≤140737488355328):=hidS (by have:=h.lmany;simp only [maxLen];omega)
 rw [←hnl]
 dsimp only [grv]
 rw [←hK]
 obtain ⟨gl,hgl⟩:∃ gl,gl=graphs.length:=⟨_,rfl⟩
 rw [←hgl]
 have hnb:=Ch.nxt_bound x.links h.low
 have HCE:Hid (∀ (W:World) (S' : Nat→Prop) (a:Option Addr) (c:Nat),Sl W S' 120 3 (.slice a (nl+1) c) (Ch.lcells links ++ [.int .i64 nx,.int .i64 (K:Int),.int .u32 (sm:Nat)]) (nl+1)→Calls Tryz.prog 135 #[.slice a (nl+1) c] W fun e w'=>e = .returned (.tuple #[.string (encL (linkX x links g)).1,.int .i64 ((encL (linkX x links g)).2:Nat)])∧Turned (fun _=>False) W w'):=fun W S' a c hs=>by
  have hll:(linkX x links g).length=nl+1:=by rw [hlk,hnl];simp
  have hcc:Ch.lcells (linkX x links g)=Ch.lcells links ++ [.int .i64 nx,.int .i64 (K:Int),.int .u32 (sm:Nat)]:=by rw [hlk,lcells_app];rfl
  rw [←hcc,←hll]at hs
  obtain ⟨a',c',hv,hl⟩:=Ch.sl_lnIs hs fun y hy=>by
   rw [hlk]at hy
   rcases List.mem_append.1 hy with q|q
   ·exact h.lok y q
   ·rw [List.mem_singleton] at q
    subst q
    have:=h.gfew
    refine ⟨⟨by simp only;omega,by simp only;omega⟩,⟨by simp only;omega,by simp only;omega⟩,?_⟩
    simp only
    rw [hsm]
    exact crcsum_lt _
  simp only [Value.slice.injEq]at hv
  obtain ⟨rfl,-,rfl⟩:=hv
  have:=Ch.encode_any a c (linkX x links g) W hl
  rw [encV_eq,hll]at this
  exact this
 have HLO:Hid (Ch.LnOk (linkX x links g)∧(linkX x links g).length≤8):=hidS (lay_lok h he2)
 obtain ⟨k2,hk2⟩:∃ k2,k2=(encL (linkX x links g)).2:=⟨_,rfl⟩
 rw [←hk2]at HCE he2
 subst he2
 obtain ⟨text,htext⟩:∃ text,text=(encL (linkX x links g)).1:=⟨_,rfl⟩
 rw [←htext]at HCE
 have hpS:¬ S p:=fun z=>by have:=h.dis p z;rw [h.ix.r1]at this;simp at this
 have HPC:Hid (∀ w6 W,Turned (fun _=>False) w w6→Turned S w6 W→W.cell? ⟨p,0,none⟩=some (pt d)∧p<W.heap.size):=fun w6 W t t2=>by
  have:=boxed (boxed h.ix.blk t id) t2 hpS
  exact ⟨cell_of this 0 _ rfl,lt_of_block this⟩
 have hI64:I64 nx:=⟨by omega,by omega⟩
 have HTB:Hid (∀ w6 W,Turned (fun _=>False) w w6→Turned S w6 W→Ch.Tab W∧Ch.Errs W):=fun w6 W t t2=>h.tab W (t.comp t2 fun i _ z=>z.elim False.elim .inl)
 have HNM:Hid (∀ w6 W D',Turned (fun _=>False) w w6→FsTo w6 S d D' W→Calls Tryz.prog 128 #[.int .i64 nx] W fun e w'=>e = .returned (.string (Ch.nameS nx))∧FsTo w6 S d D' w'):=fun w6 W D' t f=>by
  obtain ⟨S1,a1,a2,a3,a4⟩:=f
  exact (Ch.name_any nx hI64 W (HTB.out w6 W t a4).1).mono fun e w' ⟨x1,x2⟩=>⟨x1,S1,a1.turned x2 fun _ _ z=>z,a2,fun b hb=>Nat.lt_of_lt_of_le (a3 b hb) x2.size,a4.trans x2 fun _ _ z=>z.elim⟩
 have HF0:Hid (∀ w6,Turned (fun _=>False) w w6→FsTo w6 S d D w6):=fun w6 t=>FsTo.stay (h.disk.turned t fun _ _ z=>z) fun b hb=>Nat.lt_of_lt_of_le (h.sb b hb) t.size
 have HBK:Hid (∀ w6 W,Turned (fun _=>False) w w6→Turned S w6 W→W.heap[p]? = some (.cells #[pt d,.slice xa x.links.length xc,gv] 116)):=fun w6 W t t2=>boxed (boxed h.ix.blk t id) t2 hpS
 have HWR:Hid (∀ (D1:Dk) (tmp tx name:ByteArray) (w6 W:World),Turned (fun _=>False) w w6→D1.Ok→Few D1 900000000→tx.size≤1099511627776→FsTo w6 S d D1 W→Calls Tryz.prog 136 #[pt p,.string tmp,.string tx,.string name] W fun e w'=>e = .returned (.int .i64 ((writeX D1 tmp tx name).2:Nat))∧FsTo w6 S d (writeX D1 tmp tx name).1 w'):=fun D1 tmp tx name w6 W t o f z ⟨S1,a1,a2,a3,a4⟩=>by
  have hp1:¬ S1 p:=fun q=>by
   rcases a2 p q with y|y
   ·exact hpS y
   ·have:=lt_of_block h.ix.blk;have:=t.size;omega
  exact (xwrite_any a1 o f (HBK.out w6 W t a4) hp1 a3 tmp tx name z).mono fun e w' ⟨x1,x2⟩=>⟨x1,x2.next a2 a4⟩
 have HRM:Hid (∀ (D1:Dk) (nm:ByteArray) (w6 W:World),Turned (fun _=>False) w w6→D1.Ok→Few D1 900000000→FsTo w6 S d D1 W→Calls Tryz.prog 38 #[pt d,.string nm] W fun e w'=>(∃ k:Nat,e = .returned (.int .i64 (k:Nat)))∧FsTo w6 S d (D1.remove nm).1 w'):=fun D1 nm w6 W t o f ⟨S1,a1,a2,a3,a4⟩=>
  (fsRemove a1 o (by have:=f.1;omega) nm).mono fun e w' ⟨x1,x2⟩=>⟨⟨_,x1⟩,x2.next a2 a4⟩
 have HTS:Hid (T.size≤1099511627776∧text.size≤1099511627776):=⟨by rw [hT];omega,by rw [htext];have:=encL_size (linkX x links g);omega⟩
 have HOK:Hid (D.Ok∧Few D 800000000):=⟨h.ok,h.few⟩
 have HSY:Hid (∀ (D1:Dk) (w6 W:World),Turned (fun _=>False) w w6→D1.Ok→FsTo w6 S d D1 W→Calls Tryz.prog 74 #[pt d] W fun e w'=>e = .returned (.int .i64 (D1.syncNames.2:Nat))∧FsTo w6 S d D1.syncNames.1 w'):=fun D1 w6 W t o ⟨S1,a1,a2,a3,a4⟩=>
  (fsSyncNames a1 o).mono fun e w' ⟨x1,x2⟩=>⟨x1,x2.next a2 a4⟩
 rw [←hT,←hnx]at h1
 rw [←htext]at h2
 have HWX:Hid (writeX D ⟨#[103,114,97,112,104,46,116,109,112]⟩ T (Ch.nameS nx)=(D1,0)):=h1
 have HO1:Hid (D1.Ok∧Few D1 800000002):=by
  have:=writeX_ok h.ok h.few graphT T (Ch.nameS nx)
  rw [h1]at this
  exact this
 have HWY:Hid (writeX D1 ⟨#[99,104,97,105,110,46,116,109,112]⟩ text ⟨#[99,104,97,105,110]⟩=(D2,0)):=h2
 have HO2:Hid (D2.Ok∧Few D2 800000004):=by
  have:=writeX_ok HO1.out.1 HO1.out.2 chainT text chainB
  rw [h2]at this
  exact this
 have HWZ:Hid (D2.syncNames=(D3,0)):=h3
 have HO3:Hid (D3.Ok∧Few D3 800000004):=by
  have a1:=HO2.out.1.syncNamesOk
  have a2:=HO2.out.2.syncNames
  rw [h3]at a1 a2
  exact ⟨a1,a2⟩
 have HSG:Hid (∀ w6 wc W,Turned (fun _=>False) w w6→FsTo w6 S d D3 wc→Turned (fun _=>False) wc W→Sl W SG 123 6 (.slice ga gl gc) gvs gl):=fun w6 wc W t f t2=>by
  obtain ⟨_,_,_,_,f4⟩:=f
  rw [hgl]
  exact ((h.gs.turned t fun _ _ z=>z).turned f4 fun b hb=>(h.sg b hb).1).turned t2 fun _ _ z=>z
 have HGO:Hid (∀ u∈gvs,u.oneCell'=true):=gcells_one h.gs.1 h.gat
 have HGN:Hid (ga=none→gl=0):=fun q=>by subst q;rw [hgl];exact sl_none h.gs rfl
 have m2:Hid (gl+1≤maxLen∧(gl+1) * 64≤140737488355328∧gl≤8):=hidS (by have:=h.gmany;simp only [maxLen];omega)
 have HCG:Hid (∀ w6 wc W,Turned (fun _=>False) w w6→FsTo w6 S d D3 wc→Turned (fun _=>False) wc W→Calls Tryz.prog 137 #[.slice ga gl gc] W fun e w'=>∃ a c,e = .returned (.slice a gl c)∧Sl w' (fun b=>wc.heap.size≤b∧b<w'.heap.size) 123 6 (.slice a gl c) gvs gl∧Turned (fun _=>False) wc w'∧Turned (fun _=>False) W w'):=fun w6 wc W t f t2=>by
  refine (clone_graphs W (fun w' t'=>((HSG.out w6 wc W t f t2).turned t' fun _ _ z=>z).src Tryz.underlying114 HGO.out) HGN.out (by have:=m2.out;omega)).mono fun e w' ⟨v,a,b,c⟩=>?_
  obtain ⟨ca,cc,rfl,-,-⟩:=b.value
  exact ⟨ca,cc,a,b.bound.widen fun x hx=>⟨Nat.le_trans t2.size hx.1,hx.2⟩,t2.trans c fun _ _ z=>z,c⟩
 have HPF:Hid (∀ w6 wc W,Turned (fun _=>False) w w6→FsTo w6 S d D3 wc→Turned (fun b=>wc.heap.size≤b) wc W→W.cell? ⟨p,1,none⟩=some (.slice xa x.links.length xc)∧W.frozen? ⟨p,1,none⟩=false∧W.cell? ⟨p,2,none⟩=some gv∧W.frozen? ⟨p,2,none⟩=false∧p<W.heap.size):=fun w6 wc W t f t2=>by
  obtain ⟨_,_,_,_,f4⟩:=f
  have hb:=boxed (HBK.out w6 wc t f4) t2 (by have:=lt_of_block (HBK.out w6 wc t f4);omega)
  exact ⟨cell_of hb 1 _ rfl,free_of hb 1,cell_of hb 2 _ rfl,free_of hb 2,lt_of_block hb⟩
 have HL6:Hid (∀ w5 w6 a c,Sl w5 (fun b=>V.heap.size≤b) 120 3 (.slice a (nl+1) c) (Ch.lcells links ++ [.int .i64 nx,.int .i64 (K:Int),.int .u32 (sm:Nat)]) (nl+1)→Turned (fun _=>False) w5 w6→Sl w6 (fun b=>V.heap.size≤b) 120 3 (.slice a (nl+1) c) (Ch.lcells (linkX x links g)) (linkX x links g).length):=fun w5 w6 a c s t=>by
  have hll:(linkX x links g).length=nl+1:=by rw [HLK.out.1,HLK.out.2.1];simp
  have hcc:Ch.lcells (linkX x links g)=Ch.lcells links ++ [.int .i64 nx,.int .i64 (K:Int),.int .u32 (sm:Nat)]:=by rw [HLK.out.1,lcells_app];rfl
  rw [hll,hcc]
  exact s.turned t fun _ _ z=>z
 have HMID:Hid (∀ w6 wc W w9 a5 c5 a9 c9 S',Turned (fun _=>False) w w6→Sl w6 (fun b=>V.heap.size≤b) 120 3 (.slice a5 (nl+1) c5) (Ch.lcells (linkX x links g)) (linkX x links g).length→FsTo w6 S d D3 wc→Turned (fun _=>False) wc W→(∀ b,S' b→wc.heap.size≤b)→Turned S' W w9 →
   Sl w9 (More S' W) 123 6 (.slice a9 (gl+1) c9) (gvs ++ [.int .i64 g.base,.int .i64 g.h,.int .i64 g.p,.int .i64 g.m,.int .u32 (g.seed:Nat),.slice ra K rc]) (gl+1) →
   LayMid w S SR rx d p D3 ⟨linkX x links g,graphs ++ [g]⟩ (.slice a5 (nl+1) c5) ((w9.setCell ⟨p,1,none⟩ (.slice a5 (nl+1) c5)).setCell ⟨p,2,none⟩ (.slice a9 (gl+1) c9))):=fun w6 wc W w9 a5 c5 a9 c9 S' t s f t2 hS t9 s9=>by
  rw [HLK.out.2.2,hgl]at s9
  refine lay_ix h (nv:=V.heap.size) (by have:=TV.out.2;omega) s t f (S':=fun b=>More S' W b∧b<w9.heap.size) ?_ (fun b hb=>⟨?_,hb.2⟩) (t2.comp t9 fun i hi z=>z.elim False.elim fun z=>hS i z)
  ·rw [hgl];exact s9.bound
  ·exact hb.1.elim (hS b) fun z=>Nat.le_trans t2.size z
 have HXW:Hid (∀ w6 wc W,Turned (fun b=>V.heap.size≤b) V w6→FsTo w6 S d D3 wc→Turned (fun b=>wc.heap.size≤b) wc W→W.heap[w.heap.size]? = some (.cells #[.int .i64 g.base,.int .i64 g.h,.int .i64 g.p,.int .i64 g.m,.int .u32 (g.seed:Nat),.slice ra K rc] 123)):=fun w6 wc W t f t2=>by
  obtain ⟨_,_,_,_,f4⟩:=f
  have z1:=lt_of_block xV
  have z2:=t.size
  rw [hK]
  exact boxed (boxed (boxed xV t (by omega)) f4 (fun z=>by have:=h.sb _ z;omega)) t2 (by have:=f4.size;omega)
 clear htext hpS hI64 h1 h2 h3 hgl
 clear hnb hk2
 clear hZ hV tV xV h he hsz hnx hT hsm hlk hln p1 p1V hnl hK
 go_enter Tryz.func62,Tryz.ntmps62
 go_wp2_with fail
 rw [←HVV.out]
 go_wp2_with (first|(go_at_call 132;(with_reducible refine HEN.out.mono ?_);rintro e w1 ⟨rfl,q1⟩;obtain ⟨p1,p2⟩:=HPX.out w1 q1;replace q1:Hid _:=hidS q1)|(go_at_call 133;(with_reducible refine (HNX.out _ q1.out).mono ?_);rintro e w2 ⟨rfl,q2⟩;replace q2:Hid _:=hidS q2))
 have q0:¬ V.heap.size≤w.heap.size:=by have:=TV.out.2;omega
 have HXE:Hid (∀ W,Turned (fun _=>False) V W→W.cell? ⟨w.heap.size,5,none⟩=some (.slice ra K rc)):=fun W t=>(HXV.out W _ t id).1
 have HXF:Hid (∀ W,Turned (fun b=>V.heap.size≤b) V W→W.cell? ⟨w.heap.size,5,none⟩=some (.slice ra K rc)):=fun W t=>(HXV.out W _ t (by have:=TV.out.2;omega)).1
 clear c0 c1 c2 c3 c4 c5 p1 p2
 go_region_held3 (fun W=>W.cell? ⟨w.heap.size,5,none⟩=some (.slice ra K rc))
  (first|(exact HXE.out _ q2.out.draw)|(exact HXE.out _ ((q2.out.new _).draw))|(exact HXE.out _ (by assumption))|(exact HXF.out _ (by assumption))|(exact HXE.out _ ((by assumption:Turned (fun _=>False) V _).new _))|go_keep)
  (first
   |(go_at_call 134;(with_reducible refine (HCL.out w2.drew q2.out.draw).mono ?_);rintro e3 w3 ⟨a3,c3,rfl,hs3,ht3,hu3⟩;replace hs3:Hid _:=hidS hs3;clear hu3)
   |(go_at_call 134;(with_reducible refine (HCL.out (w2.alloc (.cells #[.string T] 9)).drew ((q2.out.new _).draw)).mono ?_);rintro e3 w3 ⟨a3,c3,rfl,hs3,ht3,hu3⟩;have kb3:=boxed (w:=(w2.alloc (.cells #[.string T] 9)).drew) (Go.Mine.heap_alloc_new w2 _) hu3 id;replace hs3:Hid _:=hidS hs3;clear hu3)
   |(go_at_call 134;(with_reducible refine (HCL.out w4 ht4).mono ?_);rintro e3 w3 ⟨a3,c3,rfl,hs3,ht3,hu3⟩;replace hs3:Hid _:=hidS hs3;clear hu3)
   |(go_at_call 124;(with_reducible refine (HSM.out (w3.alloc (.cells #[.string T] 9)) w3.heap.size (ht3.new _) (Go.Mine.heap_alloc_new w3 _)).mono ?_);rintro e4 w4 ⟨rfl,ht4,hu4⟩;have hs4:Hid _:=hidS (hs3.out.turned ((Turned.alloc (fun _=>False) w3 _).trans hu4 fun _ _ z=>z) fun _ _ z=>z);clear hu4)
   |(go_at_call 124;(with_reducible refine (HSM.out w3 w2.heap.size ht3 kb3).mono ?_);rintro e4 w4 ⟨rfl,ht4,hu4⟩;have hs4:Hid _:=hidS (hs3.out.turned hu4 fun _ _ z=>z);clear hu4)
   |(go_at_call 124;(with_reducible refine (HSM.out (w2.alloc (.cells #[.string T] 9)).drew w2.heap.size ((q2.out.new _).draw) (Go.Mine.heap_alloc_new w2 _)).mono ?_);rintro e4 w4 ⟨rfl,ht4,hu4⟩;clear hu4)
   |(refine step_append (by rfl) _ _ 113 113 (by rfl) (hs4.out.turned (T:=fun _=>False) (Turned.alloc _ w4 (.cells #[.int .i64 nx,.int .i64 (K:Int),.int .u32 (sm:Nat)] 120)) fun _ _ z=>z) Tryz.underlying113 infoC120 rfl (by decide) (by rfl) (.slice (some ⟨w4.heap.size,0,none⟩) 1 1) (by rfl) (src120 (.int .i64 nx) (.int .i64 (K:Int)) (.int .u32 (sm:Nat)) (by simp [Value.oneCell']) w4).1 m1.out.1 m1.out.2 ?_;intro v5 w5 hs5 ht5;obtain ⟨a5,c5',rfl,-,-⟩:=hs5.value;have T5:Turned (fun b=>V.heap.size≤b) V w5:=(ht4.new _).comp ht5 (fun i _ z=>z.elim False.elim id);have Y5:Hid _:=hidS (hs5.widen (T:=fun b=>V.heap.size≤b) fun b hb=>hb.elim id fun z=>Nat.le_trans (ht4.new _).size z);clear hs5 ht5)
   |(refine step_append (by rfl) _ _ 113 113 (by rfl) (hs3.out.turned (T:=fun _=>False) (Turned.alloc _ w3 (.cells #[.int .i64 nx,.int .i64 (K:Int),.int .u32 (sm:Nat)] 120)) fun _ _ z=>z) Tryz.underlying113 infoC120 rfl (by decide) (by rfl) (.slice (some ⟨w3.heap.size,0,none⟩) 1 1) (by rfl) (src120 (.int .i64 nx) (.int .i64 (K:Int)) (.int .u32 (sm:Nat)) (by simp [Value.oneCell']) w3).1 m1.out.1 m1.out.2 ?_;intro v5 w5 hs5 ht5;obtain ⟨a5,c5',rfl,-,-⟩:=hs5.value;have T5:Turned (fun b=>V.heap.size≤b) V w5:=(ht3.new _).comp ht5 (fun i _ z=>z.elim False.elim id);have Y5:Hid _:=hidS (hs5.widen (T:=fun b=>V.heap.size≤b) fun b hb=>hb.elim id fun z=>Nat.le_trans (ht3.new _).size z);clear hs5 ht5))
 all_goals
  go_wp2_with (first
   |(go_at_call 135;(with_reducible refine (HCE.out w5 _ _ _ Y5.out).mono ?_);rintro e6 w6 ⟨rfl,ht6⟩;have t6:Turned (fun _=>False) w w6:=(TV.out.1.comp (T5.trans ht6 fun _ _ z=>z.elim) fun i hi z=>z.elim id fun z=>by have:=TV.out.2;omega);have f6:Hid _:=hidS (HF0.out w6 t6);have s6:Hid _:=hidS (HL6.out w5 w6 _ _ Y5.out ht6);have v6:Hid (Turned (fun b=>V.heap.size≤b) V w6):=hidS (T5.trans ht6 fun _ _ z=>z.elim);clear ht6 T5)
   |(go_at_call 128;(with_reducible refine (HNM.out w6 w6 D t6 f6.out).mono ?_);rintro e7 w7 ⟨rfl,f7⟩;replace f7:Hid _:=hidS f7)
   |(go_at_call 136;(with_reducible refine (HWR.out D ⟨#[103,114,97,112,104,46,116,109,112]⟩ T (Ch.nameS nx) w6 w7 t6 HOK.out.1 (HOK.out.2.mono (by omega)) HTS.out.1 f7.out).mono ?_);rintro ea wa ⟨rfl,fa⟩;rw [HWX.out]at fa ⊢;obtain ⟨pp0,pp1⟩:=HPC.out w6 wa t6 (by obtain ⟨_,_,_,_,t⟩:=fa;exact t);replace fa:Hid _:=hidS fa)
   |(go_at_call 136;(with_reducible refine (HWR.out D1 ⟨#[99,104,97,105,110,46,116,109,112]⟩ text ⟨#[99,104,97,105,110]⟩ w6 wa t6 HO1.out.1 (HO1.out.2.mono (by omega)) HTS.out.2 fa.out).mono ?_);rintro eb wb ⟨rfl,fb⟩;rw [HWY.out]at fb ⊢;obtain ⟨pp0,pp1⟩:=HPC.out w6 wb t6 (by obtain ⟨_,_,_,_,t⟩:=fb;exact t);replace fb:Hid _:=hidS fb)
   |(go_at_call 74;(with_reducible refine (HSY.out D2 w6 wb t6 HO2.out.1 fb.out).mono ?_);rintro ec wc ⟨rfl,fc⟩;rw [HWZ.out]at fc ⊢;obtain ⟨pp0,pp1⟩:=HPC.out w6 wc t6 (by obtain ⟨_,_,_,_,t⟩:=fc;exact t);replace fc:Hid _:=hidS fc))
  have b6:=HXW.out w6 wc wc v6.out fc.out (Turned.refl _ _)
  have k0:wc.cell? ⟨w.heap.size,0,none⟩=some (.int .i64 g.base):=cell_of b6 0 _ rfl
  have k1:wc.cell? ⟨w.heap.size,1,none⟩=some (.int .i64 g.h):=cell_of b6 1 _ rfl
  have k2:wc.cell? ⟨w.heap.size,2,none⟩=some (.int .i64 g.p):=cell_of b6 2 _ rfl
  have k3:wc.cell? ⟨w.heap.size,3,none⟩=some (.int .i64 g.m):=cell_of b6 3 _ rfl
  have k4:wc.cell? ⟨w.heap.size,4,none⟩=some (.int .u32 (g.seed:Nat)):=cell_of b6 4 _ rfl
  have k5:wc.cell? ⟨w.heap.size,5,none⟩=some (.slice ra K rc):=cell_of b6 5 _ rfl
  have hlc:=lt_of_block b6
  clear b6 pp0 pp1
  go_region_law ((first
   |(go_simp;go_at_call 137;(first|(with_reducible refine (HCG.out w6 wc wc t6 fc.out (Turned.refl _ _)).mono ?_)|(with_reducible refine (HCG.out w6 wc _ t6 fc.out (Turned.drew _ _)).mono ?_));rintro e w8 ⟨a8,c8,rfl,hs8,t8,-⟩;have Y8:Hid _:=hidS (And.intro hs8 t8);have b8:=HXW.out w6 wc w8 v6.out fc.out (t8.mono fun _ _ z=>z.elim);have j0:w8.cell? ⟨w.heap.size,0,none⟩=some (.int .i64 g.base):=cell_of b8 0 _ rfl;have j1:w8.cell? ⟨w.heap.size,1,none⟩=some (.int .i64 g.h):=cell_of b8 1 _ rfl;have j2:w8.cell? ⟨w.heap.size,2,none⟩=some (.int .i64 g.p):=cell_of b8 2 _ rfl;have j3:w8.cell? ⟨w.heap.size,3,none⟩=some (.int .i64 g.m):=cell_of b8 3 _ rfl;have j4:w8.cell? ⟨w.heap.size,4,none⟩=some (.int .u32 (g.seed:Nat)):=cell_of b8 4 _ rfl;have j5:w8.cell? ⟨w.heap.size,5,none⟩=some (.slice ra K rc):=cell_of b8 5 _ rfl;have hl8:=lt_of_block b8;clear hs8 t8 b8)
   |(go_simp;go_at_call 137;(with_reducible refine (HCG.out w6 wc (wc.alloc (.cells #[.int .i64 g.base,.int .i64 g.h,.int .i64 g.p,.int .i64 g.m,.int .u32 (g.seed:Nat),.slice ra K rc] 123)).drew t6 fc.out ((Turned.alloc _ _ _).draw)).mono ?_);rintro e w8 ⟨a8,c8,rfl,hs8,t8,u8⟩;have Y8:Hid _:=hidS (And.intro hs8 t8);have kb8:Hid (w8.heap[wc.heap.size]? = some (.cells #[.int .i64 g.base,.int .i64 g.h,.int .i64 g.p,.int .i64 g.m,.int .u32 (g.seed:Nat),.slice ra K rc] 123)):=hidS (boxed (w:=(wc.alloc (.cells #[.int .i64 g.base,.int .i64 g.h,.int .i64 g.p,.int .i64 g.m,.int .u32 (g.seed:Nat),.slice ra K rc] 123)).drew) (Go.Mine.heap_alloc_new wc _) u8 id);clear hs8 t8 u8)
   |(refine step_append (by rfl) _ _ 114 114 (by rfl) (Y8.out.1.turned (T:=fun _=>False) (Turned.alloc _ w8 (.cells #[.int .i64 g.base,.int .i64 g.h,.int .i64 g.p,.int .i64 g.m,.int .u32 (g.seed:Nat),.slice ra K rc] 123)) fun _ _ z=>z) Tryz.underlying114 infoC123 rfl (by decide) (by rfl) (.slice (some ⟨w8.heap.size,0,none⟩) 1 1) (by rfl) (src123 [.int .i64 g.base,.int .i64 g.h,.int .i64 g.p,.int .i64 g.m,.int .u32 (g.seed:Nat),.slice ra K rc] rfl (by simp [Value.oneCell']) w8) m2.out.1 m2.out.2.1 ?_;intro v9 w9 hs9 ht9;obtain ⟨a9,c9,rfl,-,-⟩:=hs9.value;obtain ⟨y1,y2,y3,y4,y5⟩:=HPF.out w6 wc w9 t6 fc.out ((Y8.out.2.new _).comp ht9 fun i _ z=>z.elim False.elim fun z=>z.1);have Y9:Hid _:=hidS (HMID.out w6 wc _ w9 _ _ _ _ _ t6 s6.out fc.out (Y8.out.2.new _) (fun b hb=>hb.1) ht9 hs9);clear hs9 ht9)
   |(refine step_append (by rfl) _ _ 114 114 (by rfl) Y8.out.1 Tryz.underlying114 infoC123 rfl (by decide) (by rfl) (.slice (some ⟨wc.heap.size,0,none⟩) 1 1) (by rfl) (src123_at [.int .i64 g.base,.int .i64 g.h,.int .i64 g.p,.int .i64 g.m,.int .u32 (g.seed:Nat),.slice ra K rc] rfl (by simp [Value.oneCell']) kb8.out) m2.out.1 m2.out.2.1 ?_;intro v9 w9 hs9 ht9;obtain ⟨a9,c9,rfl,-,-⟩:=hs9.value;obtain ⟨y1,y2,y3,y4,y5⟩:=HPF.out w6 wc w9 t6 fc.out (Y8.out.2.comp ht9 fun i _ z=>z.elim False.elim fun z=>z.1);have Y9:Hid _:=hidS (HMID.out w6 wc _ w9 _ _ _ _ _ t6 s6.out fc.out Y8.out.2 (fun b hb=>hb.1) ht9 hs9);clear hs9 ht9)))
  all_goals
   rename_i hK
   refine hK _ _ ?_
   rw [HZ.out]
   have hll:(linkX x links g).length=nl+1:=by rw [HLK.out.1,HLK.out.2.1];simp
   have hm:=Y9.out
   rw [←hll]at hm ⊢
   exact lay_tail (X:=⟨linkX x links g,graphs ++ [g]⟩) hm HLO.out.1 HLO.out.2 HO3.out.1 HO3.out.2 HH.out.tab _ _ _ _ _ _ _ _ _ _ _ _ _ _ _ _ _ _ _ _ _ _ _ _ _ _ _ _ _ _ _ _ _ _ _ _ _ _ _ _ _ _ _ _ _ _ _ _ _ _ _ _ _ _ _ _ _ _ _ _ _ _ _ _ _ _ _ _ _ _ _ _ _ _ _ _ _ _ _ _ _ _ _ _ _ _ _ _ _ _ _ _ _ _ _ _ _ _ _ _ _ _ _ _ _ _ _ _ _ _ _ _ _ _ _ _ _ _ _ _ _ _ _ _ _ _
def g0B:ByteArray:=⟨#[103,114,97,112,104,45,48]⟩
def n1:Nms:=[(logB,0)]
def n3:Nms:=[(logB,0),(g0B,1),(chainB,2)]
def dk1 (q:Nat) (L:ByteArray):Dk:=⟨q,[⟨L,L.size⟩],n1,n1,[],0,false⟩
def dk3 (q:Nat) (L T C:ByteArray):Dk:=⟨q,[⟨L,L.size⟩,⟨T,T.size⟩,⟨C,C.size⟩],n3,n3,[],0,false⟩
theorem emp_app (T:ByteArray):emp ++ T=T:=by
 apply ByteArray.ext
 rw [ByteArray.data_append]
 simp [emp]
theorem itoa0:Lib.itoa 0=[48]:=by
 unfold Lib.itoa
 rw [if_neg (by decide)]
 show Lib.decDigits 0=_
 unfold Lib.decDigits
 rfl
theorem name0:Ch.nameS 0=g0B:=by
 unfold Ch.nameS
 rw [if_pos (by decide),itoa0]
 decide
theorem esz:emp.size=0:=rfl
theorem names_3 (q:Nat) (L T C:ByteArray):(dk3 q L T C).names=[chainB,g0B,logB]:=by
 show sortN (n3.map (·.1))=_
 decide
theorem open_new (q:Nat):openS ⟨q,[],[],[],[],0,false⟩=(dk1 q emp,.ok noSt):=by rfl
theorem app_1 {q:Nat} {L F:ByteArray} (h:L.size+F.size≤q):(dk1 q L).append logB F=(⟨q,[⟨L ++ F,L.size⟩],n1,n1,[],0,false⟩,0):=by
 unfold Dk.append
 have e:(dk1 q L).file logB = .ok 0:=by rfl
 have u:(dk1 q L).used=L.size:=by simp [Dk.used,dk1,n1,Dk.at]
 rw [e,u]
 simp only
 rw [if_neg (by show ¬ (_∧q<_);omega)]
 rfl
theorem write_1 {q:Nat} {L:ByteArray} {s:St} {k:Nat} {b:ByteArray} (h:L.size+(toldF ⟨k,b⟩).size≤q):writeS (dk1 q L) s k b=(dk1 q (L ++ toldF ⟨k,b⟩),{ s with dead:=false },0):=by
 rw [writeS_goes (app_1 h) rfl]
 rfl
theorem file_1 {q:Nat} {L T:ByteArray} (h:L.size+T.size≤q):writeX (dk1 q L) graphT T g0B=(⟨q,[⟨L,L.size⟩,⟨T,T.size⟩],[(logB,0),(g0B,1)],n1,[⟨emp,graphT,1⟩,⟨graphT,g0B,1⟩],0,false⟩,0):=by
 have e1:(dk1 q L).create graphT=(⟨q,[⟨L,L.size⟩,⟨emp,0⟩],[(logB,0),(graphT,1)],n1,[⟨emp,graphT,1⟩],0,false⟩,0):=by rfl
 have e2:(⟨q,[⟨L,L.size⟩,⟨emp,0⟩],[(logB,0),(graphT,1)],n1,[⟨emp,graphT,1⟩],0,false⟩:Dk).append graphT T=(⟨q,[⟨L,L.size⟩,⟨T,0⟩],[(logB,0),(graphT,1)],n1,[⟨emp,graphT,1⟩],0,false⟩,0):=by
  unfold Dk.append
  have e:(⟨q,[⟨L,L.size⟩,⟨emp,0⟩],[(logB,0),(graphT,1)],n1,[⟨emp,graphT,1⟩],0,false⟩:Dk).file graphT = .ok 1:=by rfl
  have u:(⟨q,[⟨L,L.size⟩,⟨emp,0⟩],[(logB,0),(graphT,1)],n1,[⟨emp,graphT,1⟩],0,false⟩:Dk).used=L.size:=by simp [Dk.used,Dk.at,esz]
  rw [e,u]
  simp only
  rw [if_neg (by show ¬ (_∧q<_);omega)]
  have:∀ X,X=T→(⟨q,[⟨L,L.size⟩,⟨X,0⟩],[(logB,0),(graphT,1)],n1,[⟨emp,graphT,1⟩],0,false⟩,0)=((⟨q,[⟨L,L.size⟩,⟨T,0⟩],[(logB,0),(graphT,1)],n1,[⟨emp,graphT,1⟩],0,false⟩:Dk),0):=fun X h=>by rw [h]
  exact this _ (emp_app T)
 have e3:(⟨q,[⟨L,L.size⟩,⟨T,0⟩],[(logB,0),(graphT,1)],n1,[⟨emp,graphT,1⟩],0,false⟩:Dk).sync graphT=(⟨q,[⟨L,L.size⟩,⟨T,T.size⟩],[(logB,0),(graphT,1)],n1,[⟨emp,graphT,1⟩],0,false⟩,0):=by rfl
 have e4:(⟨q,[⟨L,L.size⟩,⟨T,T.size⟩],[(logB,0),(graphT,1)],n1,[⟨emp,graphT,1⟩],0,false⟩:Dk).rename graphT g0B=(⟨q,[⟨L,L.size⟩,⟨T,T.size⟩],[(logB,0),(g0B,1)],n1,[⟨emp,graphT,1⟩,⟨graphT,g0B,1⟩],0,false⟩,0):=by rfl
 exact writeX_4 e1 e2 e3 e4
theorem file_2 {q:Nat} {L T C:ByteArray} (h:L.size+T.size+C.size≤q):writeX ⟨q,[⟨L,L.size⟩,⟨T,T.size⟩],[(logB,0),(g0B,1)],n1,[⟨emp,graphT,1⟩,⟨graphT,g0B,1⟩],0,false⟩ chainT C chainB =
  (⟨q,[⟨L,L.size⟩,⟨T,T.size⟩,⟨C,C.size⟩],n3,n1,[⟨emp,graphT,1⟩,⟨graphT,g0B,1⟩,⟨emp,chainT,2⟩,⟨chainT,chainB,2⟩],0,false⟩,0):=by
 have e1:(⟨q,[⟨L,L.size⟩,⟨T,T.size⟩],[(logB,0),(g0B,1)],n1,[⟨emp,graphT,1⟩,⟨graphT,g0B,1⟩],0,false⟩:Dk).create chainT=(⟨q,[⟨L,L.size⟩,⟨T,T.size⟩,⟨emp,0⟩],[(logB,0),(g0B,1),(chainT,2)],n1,[⟨emp,graphT,1⟩,⟨graphT,g0B,1⟩,⟨emp,chainT,2⟩],0,false⟩,0):=by rfl
 have e2:(⟨q,[⟨L,L.size⟩,⟨T,T.size⟩,⟨emp,0⟩],[(logB,0),(g0B,1),(chainT,2)],n1,[⟨emp,graphT,1⟩,⟨graphT,g0B,1⟩,⟨emp,chainT,2⟩],0,false⟩:Dk).append chainT C=(⟨q,[⟨L,L.size⟩,⟨T,T.size⟩,⟨C,0⟩],[(logB,0),(g0B,1),(chainT,2)],n1,[⟨emp,graphT,1⟩,⟨graphT,g0B,1⟩,⟨emp,chainT,2⟩],0,false⟩,0):=by
  unfold Dk.append
  have e:(⟨q,[⟨L,L.size⟩,⟨T,T.size⟩,⟨emp,0⟩],[(logB,0),(g0B,1),(chainT,2)],n1,[⟨emp,graphT,1⟩,⟨graphT,g0B,1⟩,⟨emp,chainT,2⟩],0,false⟩:Dk).file chainT = .ok 2:=by rfl
  have u:(⟨q,[⟨L,L.size⟩,⟨T,T.size⟩,⟨emp,0⟩],[(logB,0),(g0B,1),(chainT,2)],n1,[⟨emp,graphT,1⟩,⟨graphT,g0B,1⟩,⟨emp,chainT,2⟩],0,false⟩:Dk).used=L.size+T.size:=by simp [Dk.used,Dk.at,esz]
  rw [e,u]
  simp only
  rw [if_neg (by show ¬ (_∧q<_);omega)]
  have:∀ X,X=C→(⟨q,[⟨L,L.size⟩,⟨T,T.size⟩,⟨X,0⟩],[(logB,0),(g0B,1),(chainT,2)],n1,[⟨emp,graphT,1⟩,⟨graphT,g0B,1⟩,⟨emp,chainT,2⟩],0,false⟩,0)=((⟨q,[⟨L,L.size⟩,⟨T,T.size⟩,⟨C,0⟩],[(logB,0),(g0B,1),(chainT,2)],n1,[⟨emp,graphT,1⟩,⟨graphT,g0B,1⟩,⟨emp,chainT,2⟩],0,false⟩:Dk),0):=fun X h=>by rw [h]
  exact this _ (emp_app C)
 have e3:(⟨q,[⟨L,L.size⟩,⟨T,T.size⟩,⟨C,0⟩],[(logB,0),(g0B,1),(chainT,2)],n1,[⟨emp,graphT,1⟩,⟨graphT,g0B,1⟩,⟨emp,chainT,2⟩],0,false⟩:Dk).sync chainT=(⟨q,[⟨L,L.size⟩,⟨T,T.size⟩,⟨C,C.size⟩],[(logB,0),(g0B,1),(chainT,2)],n1,[⟨emp,graphT,1⟩,⟨graphT,g0B,1⟩,⟨emp,chainT,2⟩],0,false⟩,0):=by rfl
 have e4:(⟨q,[⟨L,L.size⟩,⟨T,T.size⟩,⟨C,C.size⟩],[(logB,0),(g0B,1),(chainT,2)],n1,[⟨emp,graphT,1⟩,⟨graphT,g0B,1⟩,⟨emp,chainT,2⟩],0,false⟩:Dk).rename chainT chainB=(⟨q,[⟨L,L.size⟩,⟨T,T.size⟩,⟨C,C.size⟩],n3,n1,[⟨emp,graphT,1⟩,⟨graphT,g0B,1⟩,⟨emp,chainT,2⟩,⟨chainT,chainB,2⟩],0,false⟩,0):=by rfl
 exact writeX_4 e1 e2 e3 e4
theorem tail_1 {q:Nat} {L T C:ByteArray} (h:L.size+T.size+C.size≤q):layTail (dk1 q L) 0 T C=(dk3 q L T C,0):=by
 rw [layTail_3 (by rw [name0];exact file_1 (by omega)) (file_2 h)]
 rfl
theorem sweep_3 {links:List Ch.Ln} (h:Ch.hasLn links 0=true) (q:Nat) (L T C:ByteArray):sweepX links (dk3 q L T C).names (dk3 q L T C)=dk3 q L T C:=by
 have e1:Ch.progN chainB=(0,false):=by decide
 have e2:Ch.progN logB=(0,false):=by decide
 have e3:Ch.progN g0B=(0,true):=by
  unfold Ch.progN
  have h1:g0B.extract 0 6=Ch.prefBA:=by decide
  have h2:Lib.atoiAll (g0B.extract 6 g0B.size).data.toList = .ok 0:=by decide
  rw [if_pos h1,h2]
  simp only [name0,if_true]
 rw [names_3]
 simp only [sweepX,e1,e2,e3,h]
 simp
/-! ### The first update -/
def usualG:Stg:=⟨3,10,9,0⟩
theorem grErr_ok {g:Gr} (h:goodG g):grErr g=0:=by unfold grErr;rw [if_pos h]
theorem tell_len {z:Nat} (l:List Rw):(∀ r∈l,r.par.length≤16∧r.bits.size≤z)→(tellT l).R.length=15 * l.length∧(tellT l).E.length≤64 * l.length∧(tellT l).N.length=4 * l.length∧(tellT l).B.length≤z * l.length:=by
 have:∀ (l:List Rw) (t:Tl),(∀ r∈l,r.par.length≤16∧r.bits.size≤z)→(l.foldl stepT t).R.length=t.R.length+15 * l.length∧(l.foldl stepT t).E.length≤t.E.length+64 * l.length∧(l.foldl stepT t).N.length=t.N.length+4 * l.length∧(l.foldl stepT t).B.length≤t.B.length+z * l.length:=by
  intro l
  induction l with
  |nil=>intro t _;simp
  |cons r l ih=>
   intro t h
   obtain ⟨a,b,c,d⟩:=ih (stepT t r) fun y hy=>h y (List.mem_cons_of_mem _ hy)
   obtain ⟨h1,h2⟩:=h r (List.mem_cons_self ..)
   have e1:(stepT t r).R.length=t.R.length+15:=by show (t.R ++ rowB r _).length=_;rw [List.length_append,rowB_length]
   have e2:(stepT t r).E.length≤t.E.length+64:=by have:=edgeB_length r;simp only [stepT,List.length_append];omega
   have e3:(stepT t r).N.length=t.N.length+4:=by show (t.N ++ num _ 4).length=_;rw [List.length_append,num_length]
   have e4:(stepT t r).B.length≤t.B.length+z:=by
    have:r.bits.data.toList.length=r.bits.size:=by rw [Array.length_toList];rfl
    simp only [stepT,List.length_append,this];omega
   have e5:z * (l.length+1)=z * l.length+z:=by rw [Nat.mul_add,Nat.mul_one]
   rw [List.foldl_cons,List.length_cons]
   refine ⟨by omega,by omega,by omega,by omega⟩
 intro h
 have:=this l ⟨[],[],[],[]⟩ h
 simpa [tellT] using this
theorem chunks_check (a b c d e:ByteArray):checkCh [] [(1,a),(2,b),(3,c),(4,d),(5,e)]=0:=by
 simp [checkCh,hasCh]
theorem enc_small {g:Gr} {z:Nat} (hg:goodG g) (hr:∀ r∈g.rows,r.bits.size≤z) (hn:66+g.rows.length * (83+z)≤4194304):(encE g).2=0∧(encE g).1.size≤66+g.rows.length * (83+z):=by
 obtain ⟨h1,h2,h3,h4⟩:=tell_len (z:=z) g.rows fun r hm=>by
  obtain ⟨i,hi⟩:=List.getElem?_of_mem hm
  exact ⟨(hg.2.2 i r hi).1,hr r hm⟩
 have e:g.rows.length * (83+z)=15 * g.rows.length+64 * g.rows.length+4 * g.rows.length+z * g.rows.length:=by
  rw [Nat.mul_add,Nat.mul_comm g.rows.length z];omega
 have hs:∀ (u:List UInt8),(⟨u.toArray⟩:ByteArray).size=u.length:=fun u=>by simp [ByteArray.size]
 have hd:dataSize (chunksG g)=16+(tellT g.rows).R.length+(tellT g.rows).E.length+(tellT g.rows).N.length+(tellT g.rows).B.length:=by
  have hh:(headB g).length=16:=by simp [headB,num_length]
  simp only [chunksG,dataSize,hs,hh];omega
 have hb:buildErr (chunksG g)=0:=by
  unfold buildErr
  rw [if_neg (by simp [chunksG]),if_neg (by unfold chunksG;rw [chunks_check];simp),if_neg (by rw [hd];simp only [chunksG,List.length_cons,List.length_nil];omega)]
 have he:encE g=(built (chunksG g),0):=by
  unfold encE
  rw [if_pos (grErr_ok hg),if_neg (by omega),if_pos hb]
 rw [he]
 refine ⟨rfl,?_⟩
 rw [built_size2,hd]
 simp only [chunksG,List.length_cons,List.length_nil]
 omega
theorem manyU (k:Nat) (hk:k≤9):manyB usualG k≤12:=by
 unfold manyB usualG
 simp only
 have:(10:Int).toNat=10:=rfl
 rw [this]
 omega
theorem makeF_usual (l:List ByteArray):(makeF usualG l).bits.size≤12:=by
 by_cases h:usualG.m.toNat<(once l).length
 ·rw [makeF_large h];simp [ByteArray.size]
 ·rw [makeF_small h]
  have hs:∀ (u:List UInt8),(⟨u.toArray⟩:ByteArray).size=u.length:=fun u=>by simp [ByteArray.size]
  rw [hs,bytesU_len]
  exact manyU _ (by have:usualG.m.toNat=9:=rfl;omega)
theorem usualG_ok:goodStg usualG:=by decide
theorem rowsU {s:St}:∀ (k:Nat) (known:List Int),∀ r∈rowsX s usualG k known,r.bits.size≤12
 |0,_,r,h=>by simp [rowsX]at h
 |k+1,known,r,h=>by
  rw [rowsX,List.mem_cons]at h
  rcases h with rfl|h
  ·exact makeF_usual _
  ·exact rowsU k _ r h
theorem newG_good {s:St} (hs:StGood s) {base:Int} {known:List Int} (hk:GenOk known) (hb:base=known.length) (hl:known.length≤s.commits.length):goodG (newG s usualG base known):=by
 have hc:=hs.commits
 have hu:=usualG_ok
 refine ⟨⟨by simp only [newG];omega,by simp only [newG];omega,?_⟩,hu,fun i r hi=>?_⟩
 ·simp only [newG,rowsX_len];omega
 ·have := rowsX_good hs hu (s.commits.length - known.length) known hk (by omega) i r hi
  simp only [newG]
  rw [hb]
  simpa using this
theorem chk_one (n:Int) (h:1≤n∧n≤65536) (m:Nat):Ch.lnErr [(0,n,m)]=0:=by
 unfold Ch.lnErr
 rw [if_neg (by simp)]
 unfold Ch.chkLn
 rw [if_neg (by simp [Ch.badLn,Ch.numb];omega),if_neg (by simp [Ch.hasLn]),if_neg (by simp [Ch.totLn];omega)]
 rfl
theorem update_first {q:Nat} {L:ByteArray} {s:St} (hs:StGood s) (h1:1≤s.commits.length) (h2:s.commits.length≤100) (hq:L.size+1066+95 * s.commits.length≤q) :
  ∃ T C sm,T=(encE (newG s usualG 0 [])).1∧C=(encL [(0,(s.commits.length:Int),sm)]).1∧sm=Crc.sum (nums T)∧T.size≤66+95 * s.commits.length∧C.size≤1000∧(encE (newG s usualG 0 [])).2=0∧(encL [(0,(s.commits.length:Int),sm)]).2=0∧updateX (dk1 q L) noIx s usualG=(dk3 q L T C,⟨[(0,(s.commits.length:Int),sm)],[newG s usualG 0 []]⟩,0):=by
 have hrl:(newG s usualG 0 []).rows.length=s.commits.length:=by simp [newG,rowsX_len]
 have hg:goodG (newG s usualG 0 []):=newG_good hs (fun y hy=>by simp at hy) rfl (Nat.zero_le _)
 obtain ⟨e1,e2⟩:=enc_small (z:=12) hg (fun r hr=>rowsU _ _ r hr) (by rw [hrl];omega)
 rw [hrl]at e2
 obtain ⟨T,hT⟩:∃ T,T=(encE (newG s usualG 0 [])).1:=⟨_,rfl⟩
 obtain ⟨sm,hsm⟩:∃ sm,sm=Crc.sum (nums T):=⟨_,rfl⟩
 have hlk:linkX noIx [] (newG s usualG 0 [])=[(0,(s.commits.length:Int),sm)]:=by
  unfold linkX
  rw [hrl,←hT,←hsm];rfl
 obtain ⟨C,hC⟩:∃ C,C=(encL [(0,(s.commits.length:Int),sm)]).1:=⟨_,rfl⟩
 have hc0:(encL [(0,(s.commits.length:Int),sm)]).2=0:=by
  unfold encL
  rw [if_pos (chk_one _ (by omega) _)]
 have hcs:C.size≤1000:=by rw [hC];exact encL_size _
 rw [←hT]at e2
 refine ⟨T,C,sm,hT,hC,hsm,by omega,hcs,e1,hc0,?_⟩
 have hr0:readyE noIx s usualG=0:=by
  unfold readyE
  rw [if_neg (fun z=>z.elim (fun z=>z usualG_ok) fun z=>by simp only [Ix.len,noIx,Ch.totLn]at z;omega)]
 have hl0:noIx.len=0:=rfl
 unfold updateX
 rw [if_neg (by rw [hr0];simp),if_neg (by rw [hl0];omega),if_neg (by simp [noIx])]
 have hgx:gensX noIx=[]:=rfl
 rw [hgx,hl0]
 have ht:layTail (dk1 q L) (Ch.nxt noIx.links) (encE (newG s usualG 0 [])).1 (encL (linkX noIx noIx.links (newG s usualG 0 []))).1=(dk3 q L T C,0):=by
  have:noIx.links=[]:=rfl
  rw [this,hlk,←hT,←hC]
  exact tail_1 (by omega)
 rw [layX_ok e1 (by have:noIx.links=[]:=rfl;rw [this,hlk];exact hc0) ht]
 have:noIx.links=[]:=rfl
 rw [this,hlk,sweep_3 (by simp [Ch.hasLn])]
 rfl
def aB:ByteArray:=⟨#[97]⟩
def xB:ByteArray:=⟨#[120]⟩
def t1:List Ent:=[(aB,1)]
def c0:Cm:=⟨[],0⟩
def c1:Cm:=⟨[0],0⟩
def logT (t:List Ent):ByteArray:=toldF ⟨1,bya (toldT t)⟩
def logC (c:Cm):ByteArray:=toldF ⟨2,bya (toldC c)⟩
theorem encT1:encT t1 = .ok (bya (toldT t1)):=rfl
theorem encC0:encC c0 = .ok (bya (toldC c0)):=rfl
theorem encC1:encC c1 = .ok (bya (toldC c1)):=rfl
theorem logT1_size:(logT t1).size=18:=by unfold logT;rw [toldF_size];rfl
theorem logC0_size:(logC c0).size=14:=by unfold logC;rw [toldF_size];rfl
theorem logC1_size:(logC c1).size=18:=by unfold logC;rw [toldF_size];rfl
def L1:ByteArray:=emp ++ logT t1
def L2:ByteArray:=L1 ++ logC c0
def L3:ByteArray:=L2 ++ logC c1
theorem L1_size:L1.size=18:=by unfold L1;rw [ByteArray.size_append,logT1_size,esz]
theorem L2_size:L2.size=32:=by unfold L2;rw [ByteArray.size_append,L1_size,logC0_size]
theorem L3_size:L3.size=50:=by unfold L3;rw [ByteArray.size_append,L2_size,logC1_size]
def sA:St:=⟨[t1],[],false⟩
def sB:St:=⟨[t1],[c0],false⟩
def sC:St:=⟨[t1],[c0,c1],false⟩
theorem step_A {q:Nat} (hq:1000≤q):addTree (dk1 q emp) noSt t1=(dk1 q L1,sA,0,0):=
 addTree_good rfl encT1 (by simp [noSt]) (write_1 (s:=noSt) (k:=1) (b:=bya (toldT t1)) (by show emp.size+(logT t1).size≤q;rw [esz,logT1_size];omega))
theorem step_B {q:Nat} (hq:1000≤q):addCommit (dk1 q L1) sA c0=(dk1 q L2,sB,0,0):=
 addCommit_good rfl encC0 rfl (by simp [sA]) (write_1 (s:=sA) (k:=2) (b:=bya (toldC c0)) (by show L1.size+(logC c0).size≤q;rw [L1_size,logC0_size];omega))
theorem step_C1 {q:Nat} (hq:1000≤q):addCommit (dk1 q L2) sB c1=(dk1 q L3,sC,1,0):=
 addCommit_good rfl encC1 rfl (by simp [sB]) (write_1 (s:=sB) (k:=2) (b:=bya (toldC c1)) (by show L2.size+(logC c1).size≤q;rw [L2_size,logC1_size];omega))
theorem t1_ok:∀ x∈t1,x.2<4294967296:=by decide
theorem filt1:ofF usualG [] t1=makeF usualG [aB]:=by unfold ofF;rw [diffP];rfl
theorem filt0:ofF usualG t1 t1=makeF usualG []:=by
 have:diffP t1 t1=[]:=by
  have hl:ltB aB aB=false:=by
   rcases ordB_cases aB aB with ⟨-,-,-,h⟩|⟨-,-,h,-⟩|⟨-,-,-,h⟩
   ·exact absurd rfl h
   ·exact h
   ·exact absurd rfl h
  unfold t1
  rw [diffP]
  simp [diffP,hl]
 unfold ofF;rw [this]
theorem may_a:mayF usualG (makeF usualG [aB]) aB=true:=by decide +kernel
theorem may_0:mayF usualG (makeF usualG []) aB=false:=by decide +kernel
def rA:Rw:=⟨[],0,1,(makeF usualG [aB]).state,(makeF usualG [aB]).bits⟩
def rB:Rw:=⟨[0],0,2,(makeF usualG []).state,(makeF usualG []).bits⟩
theorem newG_C:newG sC usualG 0 []=⟨0,3,10,9,0,[rA,rB]⟩:=by
 have h1:rowOf sC usualG 0 1=rA:=by
  have e:(ofF usualG (oldS sC c0) (contentS sC (0:Nat)))=makeF usualG [aB]:=filt1
  show (⟨[],0,1,(ofF usualG (oldS sC c0) (contentS sC (0:Nat))).state,(ofF usualG (oldS sC c0) (contentS sC (0:Nat))).bits⟩:Rw)=rA
  rw [e];rfl
 have h2:rowOf sC usualG 1 2=rB:=by
  have e:(ofF usualG (oldS sC c1) (contentS sC (1:Nat)))=makeF usualG []:=filt0
  show (⟨[0],0,2,(ofF usualG (oldS sC c1) (contentS sC (1:Nat))).state,(ofF usualG (oldS sC c1) (contentS sC (1:Nat))).bits⟩:Rw)=rB
  rw [e];rfl
 show (⟨0,3,10,9,0,[rowOf sC usualG 0 1,rowOf sC usualG 1 2]⟩:Gr)=_
 rw [h1,h2]
end Go.Proofs.YtofcogekgcgjhaaGreatDoor
