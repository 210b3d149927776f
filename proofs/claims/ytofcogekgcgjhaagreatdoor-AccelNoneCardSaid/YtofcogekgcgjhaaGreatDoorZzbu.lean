/- Packed. -/
import Derived.Test.YtofcogekgcgjhaaGreatDoorZzbt
set_option linter.unusedVariables false
set_option linter.unusedSimpArgs false
set_option maxRecDepth 100000
namespace Go.Proofs.YtofcogekgcgjhaaGreatDoor
open Go.RowKit Go.Mine Go.Mine.Ac
def ixF (n:Int) (sm:Nat):Ix:=if 1≤n then ix1 1 sm g0 else noIx
def XfPost (w:World) (d sm:Nat) (n:Int) (e:Ending) (w' : World):Prop:=
 ∃ p rx lv gv,e = .returned (.tuple #[pt p,.int .i64 0])∧IxAt w' rx p (pt d) lv gv (ixF n sm)∧(∀ b,rx b≠0→w.heap.size≤b)∧Turned (fun _=>False) w w'
theorem sB0_good:StGood sB0:=by
 have h1:=noSt_good.addTree (d:=dk1 1000 emp) (t:=[]) (fun x hx=>by simp at hx)
 rw [step_A0 (Nat.le_refl _)]at h1
 have h2:=StGood.addCommit (d:=dk1 1000 M1) (c:=c0) h1
 rw [step_B0 (Nat.le_refl _)]at h2
 exact h2
theorem g0_good:goodG g0:=by
 have:=newG_good sB0_good (base:=0) (known:=[]) (fun y hy=>by simp at hy) rfl (Nat.zero_le _)
 rwa [g0_is]at this
theorem ixF_ok {n:Int} {sm:Nat} (h:sm<4294967296):IxOk (ixF n sm):=by
 unfold ixF
 split
 ·refine ⟨by simp [ix1], rfl, fun l hl => ?_, fun i g hi => ?_⟩
  ·simp only [ix1, List.mem_singleton] at hl
   subst hl
   exact ⟨Int.le_refl 0,(by decide:(0:Int)≤1073741824),Int.le_refl 1,(by decide:(1:Int)≤65536),h⟩
  ·match i, hi with
   |0,hi=>
    obtain rfl:g0=g:=by simpa [ix1] using hi
    exact ⟨g0_good,rfl,_,rfl,rfl⟩
   |i+1,hi=>simp [ix1]at hi
 ·exact noIx_ok
def OpRel (w w2:World) (d sm:Nat) (n:Int) (R:List Rw) (g:Nat) (i:Value) (wr:World):Prop:=
 (g = 1 ∧ i = .int .i64 0 ∧ Turned (fun _ => False) w2 wr) ∨
  (g=0∧i = .int .i64 1∧1≤n∧Turned (fun b=>b=w.heap.size) w2 wr∧∃ la lc ga gc a c M,wr.heap[w.heap.size]? = some (.cells #[pt d,.slice la 1 lc,.slice ga 1 gc] 116)∧(w.heap.size<M∧M≤wr.heap.size)∧Sl wr (fun b=>w.heap.size<b∧M≤b) 120 3 (.slice la 1 lc) [.int .i64 0,.int .i64 1,.int .u32 (sm:Nat)] 1∧Sl wr (fun b=>w.heap.size<b∧M≤b) 123 6 (.slice ga 1 gc) [.int .i64 0,.int .i64 3,.int .i64 10,.int .i64 9,.int .u32 0,.slice a 1 c] 1∧RwIs wr (fun b=>w.heap.size<b∧b<M) a c R)
theorem src120_at {W:World} {b:Nat} (l:List Value) (hl:l.length=3) (h1:∀ u∈l,u.oneCell'=true) (hb:W.heap[b]? = some (.cells l.toArray 120)):Src Tryz.prog 3 113 (.slice (some ⟨b,0,none⟩) 1 1) 1 l W:=by
 rw [←hl]
 refine Src.ofSlice _ Tryz.underlying113 ⟨b,0,none⟩ 1 1 l (by simp) (fun j u hj=>?_) h1
 rw [Addr.add_lit,Nat.zero_add]
 exact cell_of hb j u (by simpa using hj)
theorem sl_typed {w:World} {S:Nat→Prop} {e:TypeId} {size:Nat} {v:Value} {xs:List Value} {n:Nat} (h:Sl w S e size v xs n):Sl w (fun b=>S b∧∃ cur,w.heap[b]? = some (.cells cur e (0,0))) e size v xs n:=by
 refine ⟨h.1,h.2.imp id fun ⟨g,off,cap,cur,h1,h2,h3,h4⟩=>⟨g,off,cap,cur,h1,⟨h2,cur,h3⟩,h3,h4⟩⟩
theorem rw_bound {w:World} {S:Nat→Prop} {a:Option Addr} {cap:Nat} {l:List Rw} (h:RwIs w S a cap l):RwIs w (fun b=>S b∧b<w.heap.size) a cap l:=by
 obtain ⟨h1,h2,h3,h4⟩:=h
 refine ⟨h1,h2,h3,fun q=>?_⟩
 obtain ⟨g,off,rfl,hg,hl,hc⟩:=h4 q
 refine ⟨g,off,rfl,⟨hg,hl⟩,hl,fun i r hr=>?_⟩
 obtain ⟨a,cap,⟨i1,i2,i3,i4⟩,k⟩:=hc i r hr
 refine ⟨a,cap,⟨i1,i2,i3,fun q=>?_⟩,k⟩
 obtain ⟨g,off,rfl,hg,hl,hc⟩:=i4 q
 exact ⟨g,off,rfl,⟨hg,hl⟩,hl,hc⟩
theorem ix_one {W:World} {p m d sm:Nat} {la ga a:Option Addr} {lc gc c:Nat} (hb:W.heap[p]? = some (.cells #[pt d,.slice la 1 lc,.slice ga 1 gc] 116)) (hm:p<m∧m≤W.heap.size) (h1:Sl W (fun b=>p<b∧m≤b) 120 3 (.slice la 1 lc) [.int .i64 0,.int .i64 1,.int .u32 (sm:Nat)] 1) (h2:Sl W (fun b=>p<b∧m≤b) 123 6 (.slice ga 1 gc) [.int .i64 0,.int .i64 3,.int .i64 10,.int .i64 9,.int .u32 0,.slice a 1 c] 1)
  (h3:RwIs W (fun b=>p<b∧b<m) a c g0.rows):∃ rx,IxAt W rx p (pt d) (.slice la 1 lc) (.slice ga 1 gc) (ix1 1 sm g0)∧∀ b,rx b≠0→p≤b:=by
 classical
 obtain ⟨rx,hrx⟩:∃ rx:Nat→Nat,rx=fun b=>if b=p then 1 else if b≤p then 0 else if b<m then 4 else if ∃ cur,W.heap[b]? = some (.cells cur 120 (0,0)) then 2 else if ∃ cur,W.heap[b]? = some (.cells cur 123 (0,0)) then 3 else 0:=⟨_,rfl⟩
 have r4:∀ b,p<b∧b<m→rx b=4:=fun b hb=>by rw [hrx];simp only;rw [if_neg (by omega),if_neg (by omega),if_pos hb.2]
 have r2:∀ b,(p<b∧m≤b)∧(∃ cur,W.heap[b]? = some (.cells cur 120 (0,0)))→rx b=2:=fun b ⟨hb,h⟩=>by rw [hrx];simp only;rw [if_neg (by omega),if_neg (by omega),if_neg (by omega),if_pos h]
 have r3:∀ b,(p<b∧m≤b)∧(∃ cur,W.heap[b]? = some (.cells cur 123 (0,0)))→rx b=3:=fun b ⟨hb,h⟩=>by
  rw [hrx];simp only
  rw [if_neg (by omega),if_neg (by omega),if_neg (by omega),if_neg (fun ⟨c1,k1⟩=>by obtain ⟨c2,k2⟩:=h;exact absurd (k1.symm.trans k2) (by simp)),if_pos h]
 refine ⟨rx,⟨by rw [hrx];simp,hb,?_,⟨_,(sl_typed h2).widen r3,fun i g hi=>?_⟩,fun b hb=>?_⟩,fun b hb=>?_⟩
 ·show Sl W _ 120 3 _ (Ch.lcells [(0, 1, sm)]) 1
  exact (sl_typed h1).widen r2
 ·match i, hi with
  |0,hi=>
   obtain rfl:g0=g:=by simpa [ix1] using hi
   exact ⟨a,c,rfl,rfl,rfl,rfl,rfl,rfl,⟨⟨by decide,by decide⟩,⟨by decide,by decide⟩,⟨by decide,by decide⟩,⟨by decide,by decide⟩,by decide⟩,h3.mono r4⟩
  |i+1,hi=>simp [ix1]at hi
 ·rw [hrx] at hb
  simp only at hb
  by_cases q1:b=p
  ·rw [q1];omega
  rw [if_neg q1]at hb
  by_cases q2:b≤p
  ·rw [if_pos q2]at hb;exact absurd rfl hb
  rw [if_neg q2]at hb
  by_cases q3:b<m
  ·omega
  rw [if_neg q3]at hb
  by_cases q4:∃ cur,W.heap[b]? = some (.cells cur 120 (0,0))
  ·obtain ⟨_,q4⟩:=q4;exact lt_of_block q4
  rw [if_neg q4]at hb
  by_cases q5:∃ cur,W.heap[b]? = some (.cells cur 123 (0,0))
  ·obtain ⟨_,q5⟩:=q5;exact lt_of_block q5
  rw [if_neg q5]at hb
  exact absurd rfl hb
 ·rw [hrx] at hb
  simp only at hb
  by_cases q1:b=p
  ·omega
  rw [if_neg q1]at hb
  by_cases q2:b≤p
  ·rw [if_pos q2]at hb;exact absurd rfl hb
  omega
set_option maxHeartbeats 4000000 in
theorem xopen_one {w:World} {S:Nat→Prop} {d sm:Nat} {D:Dk} {n:Int} {T C G:ByteArray} (hD:FsIs w S d D) (hoff:D.off=false) (tab:∀ W,Turned (fun _=>False) w W→Ch.Tab W) (hG:Ch.nameS 0=G) (hr:D.read G=(T,0)) (hT:T.size≤4611686018427387904) (hsm:Crc.sum (nums T)=sm) (hs4:sm<4294967296)
  (hC:D.read chainB=(C,0)) (hCz:C.size≤4611686018427387904) (hdc:Ch.decR C = .ok [(0,1,sm)])
  (hdec:Hid (∀ W,Calls Tryz.prog 129 #[.string T] W fun e w'=>Turned (fun _=>False) W w'∧∃ a c,e = .returned (.tuple #[.agg #[.int .i64 0,.int .i64 3,.int .i64 10,.int .i64 9,.int .u32 0,.slice a 1 c],.int .i64 0])∧RwIs w' (fun b=>W.heap.size≤b) a c g0.rows)) :
  Calls Tryz.prog 13 #[pt d,.int .i64 n] w (XfPost w d sm n):=by
 obtain ⟨Z,hZ⟩:∃ Z,Z=XfPost w d sm n:=⟨_,rfl⟩
 have HZ:Hid (Z=XfPost w d sm n):=hZ
 rw [←hZ]
 obtain ⟨V,hV⟩:∃ V,V=w.alloc (.cells #[pt d,.slice none 0 0,.slice none 0 0] 116):=⟨_,rfl⟩
 have HVV:Hid (V=w.alloc (.cells #[pt d,.slice none 0 0,.slice none 0 0] 116)):=hV
 obtain ⟨tV,xV⟩:=one_box (w:=w) (.cells #[pt d,.slice none 0 0,.slice none 0 0] 116)
 rw [←hV]at tV xV
 have hof:=fsOff hD
 rw [hoff]at hof
 have HRD:Hid (Calls Tryz.prog 27 #[pt d,.string ⟨#[99,104,97,105,110]⟩] V fun e w'=>e = .returned (.tuple #[.string C,.int .i64 0])∧V=w'):=hidS (by
  have:=fsRead (hD.turned tV fun _ _ q=>q) chainB
  rw [hC]at this
  exact this)
 have HDC:Hid (Calls Tryz.prog 54 #[.string C] V fun e w'=>∃ a c,e = .returned (.tuple #[.slice a 1 c,.int .i64 0])∧Turned (fun _=>False) V w'∧Sl w' (fun b=>V.heap.size≤b) 120 3 (.slice a 1 c) [.int .i64 0,.int .i64 1,.int .u32 (sm:Nat)] 1):=hidS (by
  have:=Ch.decode_any C V hCz
  rw [hdc]at this
  refine this.mono ?_
  rintro e w' ⟨h1,v,h2,h3⟩
  obtain ⟨a,c,rfl,-,-⟩:=h3.value
  exact ⟨a,c,h2,h1,h3⟩)
 have HST:Hid (∀ W,Turned (fun _=>False) V W→Calls Tryz.prog 55 #[pt w.heap.size,.agg #[.int .i64 0,.int .i64 1,.int .u32 (sm:Nat)],.int .i64 n] W fun e w'=>∃ a c,e = .returned (.tuple #[.agg #[.int .i64 0,.int .i64 3,.int .i64 10,.int .i64 9,.int .u32 0,.slice a 1 c],.bool (decide (1≤n))])∧RwIs w' (fun b=>V.heap.size≤b) a c g0.rows∧Turned (fun _=>False) W w'):=fun W t=>by
  have hx:IxAt W (fun b=>if b=w.heap.size then 1 else 0) w.heap.size (pt d) (.slice none 0 0) (.slice none 0 0) noIx:=by
   refine ⟨if_pos rfl,boxed xV t id,Sl.nil _ _ _ _,⟨[],Sl.nil _ _ _ _,fun i g hi=>by simp [noIx]at hi⟩,fun b hb=>?_⟩
   by_cases q:b=w.heap.size
   ·rw [q];exact lt_of_block (boxed xV t id)
   ·simp [q]at hb
  refine (xstands_is ((hD.turned tV fun _ _ z=>z).turned t fun _ _ z=>z) hx (fun W2 t2=>tab W2 ((tV.trans t fun _ _ z=>z).trans t2 fun _ _ z=>z)) hG hr hT hsm hdec).mono fun e w' ⟨a,c,h1,h2,h3⟩=>⟨a,c,h1,h2.mono fun b hb=>Nat.le_trans t.size hb,h3⟩
 replace HST:Hid _:=HST
 clear hZ hV hD hoff tab hG hr hT hsm hC hCz hdc hdec
 go_enter Tryz.func13,Tryz.ntmps13
 go_wp2_with (go_at_call 53;(with_reducible refine hof.mono ?_);rintro e w1 ⟨rfl,rfl⟩)
 rw [←HVV.out]
 (with_reducible refine HRD.out.mono ?_)
 rintro e w1 ⟨rfl,rfl⟩
 go_wp2_with (first
  |(go_at_call 54;(with_reducible refine HDC.out.mono ?_);rintro e w2 ⟨a0,c0,rfl,t2,s2⟩;replace s2:Hid _:=hidS s2;replace t2:Hid _:=hidS t2))
 have zV:V.heap.size=w.heap.size+1:=by rw [HVV.out];simp
 obtain ⟨gb,go,cap0,hv0,hgS,-,-,hcell,-,hlt0⟩:=s2.out.opens (by decide)
 injection hv0 with e1 e2 e3
 subst e1
 subst e3
 have CELL:Hid (∀ wr,Turned (fun _=>False) w2 wr→wr.cell? ⟨gb,go,none⟩=some (.int .i64 0)∧wr.cell? ⟨gb,go+1,none⟩=some (.int .i64 1)∧wr.cell? ⟨gb,go+2,none⟩=some (.int .u32 (sm:Nat))∧gb<wr.heap.size):=fun wr t=>by
  have a0:=hcell 0 (by decide)
  have a1:=hcell 1 (by decide)
  have a2:=hcell 2 (by decide)
  exact ⟨cell_at a0 t id,cell_at a1 t id,cell_at a2 t id,Nat.lt_of_lt_of_le hlt0 t.size⟩
 have HB:Hid (∀ wr,Turned (fun _=>False) w2 wr→wr.heap[w.heap.size]? = some (.cells #[pt d,.slice none 0 0,.slice none 0 0] 116)):=fun wr t=>boxed (boxed xV t2.out id) t id
 have HS2:Hid (∀ W,Turned (fun _=>False) w2 W→Calls Tryz.prog 55 #[pt w.heap.size,.agg #[.int .i64 0,.int .i64 1,.int .u32 (sm:Nat)],.int .i64 n] W fun e w'=>∃ a c,e = .returned (.tuple #[.agg #[.int .i64 0,.int .i64 3,.int .i64 10,.int .i64 9,.int .u32 0,.slice a 1 c],.bool (decide (1≤n))])∧RwIs w' (fun b=>w.heap.size<b) a c g0.rows∧Turned (fun _=>False) w2 w'∧Turned (fun _=>False) W w'):=fun W t=>(HST.out W (t2.out.trans t fun _ _ z=>z)).mono fun e w' ⟨a,c,h1,h2,h3⟩=>⟨a,c,h1,h2.mono fun b hb=>by have hb:V.heap.size≤b:=hb;omega,t.trans h3 fun _ _ z=>z,h3⟩
 have FIN0:Hid (∀ W,Turned (fun _=>False) w2 W→¬ 1≤n→XfPost w d sm n (.returned (.tuple #[pt w.heap.size,.int .i64 0])) W):=fun W t hn=>by
  have hb:=HB.out W t
  refine ⟨w.heap.size,fun b=>if b=w.heap.size then 1 else 0,.slice none 0 0,.slice none 0 0,rfl,?_,fun b hb=>?_,(tV.trans t2.out fun _ _ z=>z).trans t fun _ _ z=>z⟩
  ·unfold ixF
   rw [if_neg hn]
   refine ⟨if_pos rfl,hb,Sl.nil _ _ _ _,⟨[],Sl.nil _ _ _ _,fun i g hi=>by simp [noIx]at hi⟩,fun b hb2=>?_⟩
   by_cases q:b=w.heap.size
   ·rw [q];exact lt_of_block hb
   ·simp [q]at hb2
  ·by_cases q : b = w.heap.size
   ·omega
   ·simp [q]at hb
 have FIN2:Hid (∀ W la lc ga gc a c M,1≤n→Turned (fun b=>b=w.heap.size) w2 W→W.heap[w.heap.size]? = some (.cells #[pt d,.slice la 1 lc,.slice ga 1 gc] 116)→(w.heap.size<M∧M≤W.heap.size)→Sl W (fun b=>w.heap.size<b∧M≤b) 120 3 (.slice la 1 lc) [.int .i64 0,.int .i64 1,.int .u32 (sm:Nat)] 1→Sl W (fun b=>w.heap.size<b∧M≤b) 123 6 (.slice ga 1 gc) [.int .i64 0,.int .i64 3,.int .i64 10,.int .i64 9,.int .u32 0,.slice a 1 c] 1→RwIs W (fun b=>w.heap.size<b∧b<M) a c g0.rows→XfPost w d sm n (.returned (.tuple #[pt w.heap.size,.int .i64 0])) W):=fun W la lc ga gc a c M hn t hb hM h1 h2 h3=>by
  obtain ⟨rx,k1,k2⟩:=ix_one hb hM h1 h2 h3
  refine ⟨w.heap.size,rx,.slice la 1 lc,.slice ga 1 gc,rfl,?_,k2,(tV.trans t2.out fun _ _ z=>z).comp (T:=fun _=>False) t fun i hi z=>z.elim id fun z=>by have:i=w.heap.size:=z;omega⟩
  unfold ixF
  rw [if_pos hn]
  exact k1
 clear xV hof HRD HDC hgS hcell hlt0 zV e2 tV
 go_loopg [39] 1 (fun g i wr=>OpRel w w2 d sm n g0.rows g i wr)
 case atStart=>exact .inl ⟨rfl,rfl,Turned.refl _ _⟩
 case round=>
  rcases hrel with ⟨hg,rfl,ht⟩|⟨hg,rfl,hn,ht,la,lc,ga,gc,a,c,M,hb,hM,h1,h2,h3⟩
  ·obtain ⟨k0, k1, k2, k3⟩ := CELL.out wr ht
   replace ht:Hid _:=hidS ht
   by_cases hn:1≤n
   ·rw [decide_eq_true hn] at HS2
    have HNn:Hid (1≤n):=hn
    clear hn
    go_wp2_with (go_at_call 55;(with_reducible refine (HS2.out _ (ht.out.new _)).mono ?_);rintro e w5 ⟨a,c,rfl,r5,t5,t6⟩;replace r5:Hid _:=hidS r5)
    obtain ⟨tX,xX⟩:=one_box (w:=w5) (.cells #[.int .i64 0,.int .i64 3,.int .i64 10,.int .i64 9,.int .u32 0,.slice a 1 c] 123)
    have xL:(w5.alloc (.cells #[.int .i64 0,.int .i64 3,.int .i64 10,.int .i64 9,.int .u32 0,.slice a 1 c] 123)).heap[wr.heap.size]? = some (.cells #[.int .i64 0,.int .i64 1,.int .u32 (sm:Nat)] 120):=boxed (boxed (Go.Mine.heap_alloc_new wr _) t6 id) tX id
    have TX:Hid (Turned (fun _=>False) w2 (w5.alloc (.cells #[.int .i64 0,.int .i64 3,.int .i64 10,.int .i64 9,.int .u32 0,.slice a 1 c] 123))):=hidS (t5.trans tX fun _ _ z=>z)
    have r6:=r5.out.turned tX fun _ _ z=>z
    clear t5 t6 tX r5 k0 k1 k2 k3
    generalize w5.alloc (.cells #[.int .i64 0,.int .i64 3,.int .i64 10,.int .i64 9,.int .u32 0,.slice a 1 c] 123)=X at *
    generalize w5.heap.size=bg at *
    generalize wr.heap.size=bl at *
    obtain ⟨M,hM⟩:∃ M,M=X.heap.size:=⟨_,rfl⟩
    have RX:Hid (RwIs X (fun b=>w.heap.size<b∧b<M) a c g0.rows):=hidS (by rw [hM];exact rw_bound r6)
    have hw:=lt_of_block (HB.out _ TX.out)
    have LW:Hid (w.heap.size<M):=(by omega:w.heap.size<M)
    have HSS:Hid (∀ W,Turned (fun _=>False) X W→W.cell? ⟨w.heap.size,1,none⟩=some (.slice none 0 0)∧W.cell? ⟨w.heap.size,2,none⟩=some (.slice none 0 0)∧W.cell? ⟨bl,0,none⟩=some (.int .i64 0)∧W.cell? ⟨bl,1,none⟩=some (.int .i64 1)∧W.cell? ⟨bl,2,none⟩=some (.int .u32 (sm:Nat))∧W.cell? ⟨bg,0,none⟩=some (.int .i64 0)∧W.cell? ⟨bg,1,none⟩=some (.int .i64 3)∧W.cell? ⟨bg,2,none⟩=some (.int .i64 10)∧W.cell? ⟨bg,3,none⟩=some (.int .i64 9)∧W.cell? ⟨bg,4,none⟩=some (.int .u32 0)∧W.cell? ⟨bg,5,none⟩=some (.slice a 1 c)):=fun W t=>by
     have h0:=HB.out W (TX.out.trans t fun _ _ z=>z)
     have h1:=boxed xL t id
     have h2:=boxed xX t id
     exact ⟨cell_of h0 1 _ rfl,cell_of h0 2 _ rfl,cell_of h1 0 _ rfl,cell_of h1 1 _ rfl,cell_of h1 2 _ rfl,cell_of h2 0 _ rfl,cell_of h2 1 _ rfl,cell_of h2 2 _ rfl,cell_of h2 3 _ rfl,cell_of h2 4 _ rfl,cell_of h2 5 _ rfl⟩
    have HM:Hid (∀ W b,Turned (fun _=>False) X W→W.heap.size≤b→w.heap.size<b∧M≤b):=fun W b t hb=>by have:=t.size;exact ⟨by omega,by omega⟩
    have HBW:Hid (∀ W,Turned (fun _=>False) X W→W.cell? ⟨w.heap.size,1,none⟩=some (.slice none 0 0)∧W.frozen? ⟨w.heap.size,1,none⟩=false∧W.cell? ⟨w.heap.size,2,none⟩=some (.slice none 0 0)∧W.frozen? ⟨w.heap.size,2,none⟩=false∧w.heap.size<W.heap.size):=fun W t=>by
     have h0:=HB.out W (TX.out.trans t fun _ _ z=>z)
     exact ⟨cell_of h0 1 _ rfl,free_of h0 1,cell_of h0 2 _ rfl,free_of h0 2,lt_of_block h0⟩
    have FIN1:Hid (∀ W a8 c8 a15 c15,Turned (fun _=>False) X W→Sl W (fun b=>w.heap.size<b∧M≤b) 120 3 (.slice a8 1 c8) [.int .i64 0,.int .i64 1,.int .u32 (sm:Nat)] 1→Sl W (fun b=>w.heap.size<b∧M≤b) 123 6 (.slice a15 1 c15) [.int .i64 0,.int .i64 3,.int .i64 10,.int .i64 9,.int .u32 0,.slice a 1 c] 1→OpRel w w2 d sm n g0.rows 0 (.int .i64 1) ((W.setCell ⟨w.heap.size,1,none⟩ (.slice a8 1 c8)).setCell ⟨w.heap.size,2,none⟩ (.slice a15 1 c15))):=fun W a8 c8 a15 c15 t g1 g2=>by
     have hb:=HB.out W (TX.out.trans t fun _ _ z=>z)
     have t3:Turned (fun b=>b=w.heap.size) W ((W.setCell ⟨w.heap.size,1,none⟩ (.slice a8 1 c8)).setCell ⟨w.heap.size,2,none⟩ (.slice a15 1 c15)):=((Turned.refl (fun b=>b=w.heap.size) W).set (p:=⟨w.heap.size,1,none⟩) rfl _).set (p:=⟨w.heap.size,2,none⟩) rfl _
     have e1:=Go.Mine.heap_setCell_same (Go.Mine.heap_setCell_same hb (o:=1) (.slice a8 1 c8)) (o:=2) (.slice a15 1 c15)
     have z1:=t.size
     have z2:=t3.size
     have hlw:=LW.out
     exact .inr ⟨rfl,rfl,HNn.out,((TX.out.trans t fun _ _ z=>z).mono fun _ _ z=>z.elim).trans t3 fun _ _ z=>z,a8,c8,a15,c15,a,c,M,by simpa using e1,⟨LW.out,by omega⟩,g1.turned t3 fun b z y=>by omega,g2.turned t3 fun b z y=>by omega,(RX.out.turned t fun _ _ z=>z).turned t3 fun b z y=>by omega⟩
    clear xX xL r6 hM hw HS2 CELL HB RX TX LW HNn
    have QW0:Hid (Turned (fun _=>False) X X.drew):=hidS (Turned.drew _ _)
    refine region_E 15 (fun W=>W.cell? ⟨w.heap.size,1,none⟩=some (.slice none 0 0)∧W.cell? ⟨w.heap.size,2,none⟩=some (.slice none 0 0)∧W.cell? ⟨bl,0,none⟩=some (.int .i64 0)∧W.cell? ⟨bl,1,none⟩=some (.int .i64 1)∧W.cell? ⟨bl,2,none⟩=some (.int .u32 (sm:Nat))∧W.cell? ⟨bg,0,none⟩=some (.int .i64 0)∧W.cell? ⟨bg,1,none⟩=some (.int .i64 3)∧W.cell? ⟨bg,2,none⟩=some (.int .i64 10)∧W.cell? ⟨bg,3,none⟩=some (.int .i64 9)∧W.cell? ⟨bg,4,none⟩=some (.int .u32 0)∧W.cell? ⟨bg,5,none⟩=some (.slice a 1 c)) (by kernel_rfl) ?_
    generalize X.drew=W0 at *
    have hS0:=HSS.out _ QW0.out
    refine anyE_take0 (i:=0) (o:={ dst:=some 52,op:=Op.move (Operand.tmp 6),type:=26,pos := "accel.go:56",after:=#[],guard:=none }) (v:=?_) rfl (by kernel_rfl) (by kernel_rfl) (by kernel_rfl) (by decide) (fun _ _ _ h=>h) (Or.inl ⟨by rfl,?_⟩) (.inr hS0) ?_
    rotate_left
    ·intro w9 hSw;go_simp;try with_reducible rfl
    try simp only [Act.put,List.setIfInBounds_toArray,List.set_cons_zero,List.set_cons_succ]
    refine anyE_take0 (i:=1) (o:={ dst:=some 53,op:=Op.move (Operand.tmp 6),type:=26,pos := "accel.go:56",after:=#[{ on:=18,ground:=Ground.gcOnly Departure.lateStores }],guard:=none }) (v:=?_) rfl (by kernel_rfl) (by kernel_rfl) (by kernel_rfl) (by decide) (fun _ _ _ h=>h) (Or.inl ⟨by rfl,?_⟩) (.inr hS0) ?_
    rotate_left
    ·intro w9 hSw;go_simp;try with_reducible rfl
    try simp only [Act.put,List.setIfInBounds_toArray,List.set_cons_zero,List.set_cons_succ]
    refine anyE_take0 (i:=2) (o:={ dst:=some 54,op:=Op.move (Operand.tmp 6),type:=26,pos := "accel.go:56",after:=#[],guard:=none }) (v:=?_) rfl (by kernel_rfl) (by kernel_rfl) (by kernel_rfl) (by decide) (fun _ _ _ h=>h) (Or.inl ⟨by rfl,?_⟩) (.inr hS0) ?_
    rotate_left
    ·intro w9 hSw;go_simp;try with_reducible rfl
    try simp only [Act.put,List.setIfInBounds_toArray,List.set_cons_zero,List.set_cons_succ]
    refine anyE_take0 (i:=3) (o:={ dst:=some 55,op:=Op.nilCheck (Operand.tmp 54),type:=0,pos := "accel.go:56",after:=#[{ on:=2,ground:=Ground.data }],guard:=none }) (v:=?_) rfl (by kernel_rfl) (by kernel_rfl) (by kernel_rfl) (by decide) (fun _ _ _ h=>h) (Or.inl ⟨by rfl,?_⟩) (.inr hS0) ?_
    rotate_left
    ·intro w9 hSw;go_simp;try with_reducible rfl
    try simp only [Act.put,List.setIfInBounds_toArray,List.set_cons_zero,List.set_cons_succ]
    refine anyE_take0 (i:=4) (o:={ dst:=some 56,op:=Op.fieldAddr 116 (Operand.tmp 55) 1,type:=0,pos := "accel.go:56",after:=#[{ on:=3,ground:=Ground.data }],guard:=none }) (v:=?_) rfl (by kernel_rfl) (by kernel_rfl) (by kernel_rfl) (by decide) (fun _ _ _ h=>h) (Or.inl ⟨by rfl,?_⟩) (.inr hS0) ?_
    rotate_left
    ·intro w9 hSw;go_simp;try with_reducible rfl
    try simp only [Act.put,List.setIfInBounds_toArray,List.set_cons_zero,List.set_cons_succ]
    refine anyE_take (i:=5) (o:={ dst:=some 57,op:=Op.load 113 (Operand.tmp 56),type:=113,pos := "accel.go:56",after:=#[{ on:=4,ground:=Ground.data }],guard:=none }) (v:=?_) rfl (by kernel_rfl) (by kernel_rfl) (by kernel_rfl) (.inr ⟨8,by kernel_rfl,by kernel_rfl,by kernel_rfl⟩) (by kernel_rfl) (fun _ _ _ h=>h) (Or.inl ⟨by rfl,?_⟩) hS0 ?_
    rotate_left
    ·intro w9 hSw;(try dsimp only at hSw);obtain ⟨s0,s1,s2,s3,s4,s5,s6,s7,s8,s9,s10⟩:=hSw;go_simp;try with_reducible rfl
    try simp only [Act.put,List.setIfInBounds_toArray,List.set_cons_zero,List.set_cons_succ]
    refine anyE_take3 (i:=6) (o:={ dst:=some 58,op:=Op.load 120 (Operand.tmp 12),type:=120,pos := "accel.go:56",after:=#[],guard:=none }) (v:=?_) rfl (by kernel_rfl) (by kernel_rfl) (by kernel_rfl) ⟨8,7,by kernel_rfl,by kernel_rfl,by kernel_rfl,by kernel_rfl,by kernel_rfl⟩ (by kernel_rfl) (fun _ _ _ h=>h) (Or.inl ⟨by rfl,?_⟩) hS0 ?_
    rotate_left
    ·intro w9 hSw;(try dsimp only at hSw);obtain ⟨s0,s1,s2,s3,s4,s5,s6,s7,s8,s9,s10⟩:=hSw;go_simp;try with_reducible rfl
    try simp only [Act.put,List.setIfInBounds_toArray,List.set_cons_zero,List.set_cons_succ]
    refine anyE_take0 (i:=9) (o:={ dst:=some 61,op:=Op.move (Operand.tmp 6),type:=26,pos := "accel.go:56",after:=#[],guard:=none }) (v:=?_) rfl (by kernel_rfl) (by kernel_rfl) (by kernel_rfl) (by decide) (fun _ _ _ h=>h) (Or.inl ⟨by rfl,?_⟩) (.inr hS0) ?_
    rotate_left
    ·intro w9 hSw;go_simp;try with_reducible rfl
    try simp only [Act.put,List.setIfInBounds_toArray,List.set_cons_zero,List.set_cons_succ]
    refine anyE_take0 (i:=10) (o:={ dst:=some 62,op:=Op.nilCheck (Operand.tmp 61),type:=0,pos := "accel.go:56",after:=#[{ on:=9,ground:=Ground.data }],guard:=none }) (v:=?_) rfl (by kernel_rfl) (by kernel_rfl) (by kernel_rfl) (by decide) (fun _ _ _ h=>h) (Or.inl ⟨by rfl,?_⟩) (.inr hS0) ?_
    rotate_left
    ·intro w9 hSw;go_simp;try with_reducible rfl
    try simp only [Act.put,List.setIfInBounds_toArray,List.set_cons_zero,List.set_cons_succ]
    refine anyE_take0 (i:=11) (o:={ dst:=some 63,op:=Op.fieldAddr 116 (Operand.tmp 62) 2,type:=0,pos := "accel.go:56",after:=#[{ on:=10,ground:=Ground.data }],guard:=none }) (v:=?_) rfl (by kernel_rfl) (by kernel_rfl) (by kernel_rfl) (by decide) (fun _ _ _ h=>h) (Or.inl ⟨by rfl,?_⟩) (.inr hS0) ?_
    rotate_left
    ·intro w9 hSw;go_simp;try with_reducible rfl
    try simp only [Act.put,List.setIfInBounds_toArray,List.set_cons_zero,List.set_cons_succ]
    refine anyE_take (i:=12) (o:={ dst:=some 64,op:=Op.load 114 (Operand.tmp 63),type:=114,pos := "accel.go:56",after:=#[{ on:=11,ground:=Ground.data }],guard:=none }) (v:=?_) rfl (by kernel_rfl) (by kernel_rfl) (by kernel_rfl) (.inl (by kernel_rfl)) (by kernel_rfl) (fun _ _ _ h=>h) (Or.inl ⟨by rfl,?_⟩) hS0 ?_
    rotate_left
    ·intro w9 hSw;(try dsimp only at hSw);obtain ⟨s0,s1,s2,s3,s4,s5,s6,s7,s8,s9,s10⟩:=hSw;go_simp;try with_reducible rfl
    try simp only [Act.put,List.setIfInBounds_toArray,List.set_cons_zero,List.set_cons_succ]
    refine anyE_take (i:=13) (o:={ dst:=some 65,op:=Op.load 123 (Operand.tmp 13),type:=123,pos := "accel.go:56",after:=#[],guard:=none }) (v:=?_) rfl (by kernel_rfl) (by kernel_rfl) (by kernel_rfl) (.inr ⟨14,by kernel_rfl,by kernel_rfl,by kernel_rfl⟩) (by kernel_rfl) (fun _ _ _ h=>h) (Or.inl ⟨by rfl,?_⟩) hS0 ?_
    rotate_left
    ·intro w9 hSw;(try dsimp only at hSw);obtain ⟨s0,s1,s2,s3,s4,s5,s6,s7,s8,s9,s10⟩:=hSw;go_simp;try with_reducible rfl
    try simp only [Act.put,List.setIfInBounds_toArray,List.set_cons_zero,List.set_cons_succ]
    refine anyE_ready (rs:=[7,14]) (by kernel_rfl) (by simp) ?_
    refine allE_cons (o:={ dst:=some 59,op:=Op.buildSlice 113 1 #[(0,Operand.tmp 58)],type:=113,pos := "accel.go:56",after:=#[{ on:=6,ground:=Ground.data }],guard:=none }) rfl (fun K hK=>?_) ?_
    ·(go_simp; refine hK.out _ _ (.inr (.inr (HSS.out _ (QW0.out.new _)))) ?_; clear hK K)
     have K7:Hid ((W0.alloc (.cells #[.int .i64 0,.int .i64 1,.int .u32 (sm:Nat)] 120)).heap[W0.heap.size]? = some (.cells #[.int .i64 0,.int .i64 1,.int .u32 (sm:Nat)] 120)):=hidS (Go.Mine.heap_alloc_new W0 _)
     have QW1:Hid (Turned (fun _=>False) X (W0.alloc (.cells #[.int .i64 0,.int .i64 1,.int .u32 (sm:Nat)] 120))):=hidS (QW0.out.new _)
     generalize W0.alloc (.cells #[.int .i64 0,.int .i64 1,.int .u32 (sm:Nat)] 120)=W1 at *
     generalize W0.heap.size=b7 at *
     have hS0:=HSS.out _ QW1.out
     try simp only [Act.put,List.setIfInBounds_toArray,List.set_cons_zero,List.set_cons_succ]
     refine anyE_ready (rs:=[8,14]) (by kernel_rfl) (by simp) ?_
     refine allE_cons (o:={ dst:=some 60,op:=Op.call { callee:=Callee.builtin Builtin.append,args:=#[Operand.tmp 57,Operand.tmp 59],argTypes:=#[113,113] },type:=113,pos := "accel.go:56",after:=#[{ on:=5,ground:=Ground.data },{ on:=7,ground:=Ground.data }],guard:=none }) rfl (fun K hK=>?_) ?_
     ·refine step_append (by rfl) _ _ 113 113 (by rfl) (Sl.nil _ (fun _ => False) 120 3) Tryz.underlying113 infoC120 rfl (by decide) (by rfl) (.slice (some ⟨b7, 0, none⟩) 1 1) (by rfl) (src120_at [.int .i64 0, .int .i64 1, .int .u32 (sm : Nat)] rfl (by simp [Value.oneCell']) K7.out) (by decide) (by decide) ?_
      intro v8 W2 hs8 ht8
      obtain ⟨a8,c8,rfl,-,-⟩:=hs8.value
      have QW2:Hid (Turned (fun _=>False) X W2):=hidS (QW1.out.trans ht8 fun _ _ z=>z)
      have Y8:Hid (Sl W2 (fun b=>w.heap.size<b∧M≤b) 120 3 (.slice a8 1 c8) [.int .i64 0,.int .i64 1,.int .u32 (sm:Nat)] 1):=hidS (hs8.widen fun b z=>z.elim False.elim fun z=>HM.out _ b QW1.out z)
      have K7x:Hid _:=hidS (boxed K7.out ht8 id);clear K7;have K7:Hid _:=hidS K7x.out;clear K7x
      refine hK.out _ _ (.inr (.inr (HSS.out _ QW2.out))) ?_
      clear hK K hs8 ht8
      have hS0:=HSS.out _ QW2.out
      try simp only [Act.put,List.setIfInBounds_toArray,List.set_cons_zero,List.set_cons_succ]
      refine anyE_ready (rs:=[14]) (by kernel_rfl) (by simp) ?_
      refine allE_cons (o:={ dst:=some 66,op:=Op.buildSlice 114 1 #[(0,Operand.tmp 65)],type:=114,pos := "accel.go:56",after:=#[{ on:=13,ground:=Ground.data }],guard:=none }) rfl (fun K hK=>?_) allE_nil
      ·(go_simp; refine hK.out _ _ (.inr (.inr (HSS.out _ (QW2.out.new _)))) ?_; clear hK K)
       have K14:Hid ((W2.alloc (.cells #[.int .i64 0,.int .i64 3,.int .i64 10,.int .i64 9,.int .u32 0,.slice a 1 c] 123)).heap[W2.heap.size]? = some (.cells #[.int .i64 0,.int .i64 3,.int .i64 10,.int .i64 9,.int .u32 0,.slice a 1 c] 123)):=hidS (Go.Mine.heap_alloc_new W2 _)
       have QW3:Hid (Turned (fun _=>False) X (W2.alloc (.cells #[.int .i64 0,.int .i64 3,.int .i64 10,.int .i64 9,.int .u32 0,.slice a 1 c] 123))):=hidS (QW2.out.new _)
       have K7x:Hid _:=hidS (boxed K7.out (Turned.alloc (fun _=>False) W2 (.cells #[.int .i64 0,.int .i64 3,.int .i64 10,.int .i64 9,.int .u32 0,.slice a 1 c] 123)) id);clear K7;have K7:Hid _:=hidS K7x.out;clear K7x
       have Y8x:Hid _:=hidS (Y8.out.turned (Turned.alloc (fun _=>False) W2 (.cells #[.int .i64 0,.int .i64 3,.int .i64 10,.int .i64 9,.int .u32 0,.slice a 1 c] 123)) fun _ _ z=>z);clear Y8;have Y8:Hid _:=hidS Y8x.out;clear Y8x
       generalize W2.alloc (.cells #[.int .i64 0,.int .i64 3,.int .i64 10,.int .i64 9,.int .u32 0,.slice a 1 c] 123)=W3 at *
       generalize W2.heap.size=b14 at *
       have hS0:=HSS.out _ QW3.out
       try simp only [Act.put,List.setIfInBounds_toArray,List.set_cons_zero,List.set_cons_succ]
       refine anyE_ready (rs:=[15]) (by kernel_rfl) (by simp) ?_
       refine allE_cons (o:={ dst:=some 67,op:=Op.call { callee:=Callee.builtin Builtin.append,args:=#[Operand.tmp 64,Operand.tmp 66],argTypes:=#[114,114] },type:=114,pos := "accel.go:56",after:=#[{ on:=12,ground:=Ground.data },{ on:=14,ground:=Ground.data },{ on:=8,ground:=Ground.chain }],guard:=none }) rfl (fun K hK=>?_) allE_nil
       ·refine step_append (by rfl) _ _ 114 114 (by rfl) (Sl.nil _ (fun _ => False) 123 6) Tryz.underlying114 infoC123 rfl (by decide) (by rfl) (.slice (some ⟨b14, 0, none⟩) 1 1) (by rfl) (src123_at [.int .i64 0, .int .i64 3, .int .i64 10, .int .i64 9, .int .u32 0, .slice a 1 c] rfl (by simp [Value.oneCell']) K14.out) (by decide) (by decide) ?_
        intro v15 W4 hs15 ht15
        obtain ⟨a15,c15,rfl,-,-⟩:=hs15.value
        have QW4:Hid (Turned (fun _=>False) X W4):=hidS (QW3.out.trans ht15 fun _ _ z=>z)
        have Y15:Hid (Sl W4 (fun b=>w.heap.size<b∧M≤b) 123 6 (.slice a15 1 c15) [.int .i64 0,.int .i64 3,.int .i64 10,.int .i64 9,.int .u32 0,.slice a 1 c] 1):=hidS (hs15.widen fun b z=>z.elim False.elim fun z=>HM.out _ b QW3.out z)
        have K7x:Hid _:=hidS (boxed K7.out ht15 id);clear K7;have K7:Hid _:=hidS K7x.out;clear K7x
        have Y8x:Hid _:=hidS (Y8.out.turned ht15 fun _ _ z=>z);clear Y8;have Y8:Hid _:=hidS Y8x.out;clear Y8x
        have K14x:Hid _:=hidS (boxed K14.out ht15 id);clear K14;have K14:Hid _:=hidS K14x.out;clear K14x
        refine hK.out _ _ (.inr (.inl rfl)) ?_
        clear hK K hs15 ht15
        have hS0:=HSS.out _ QW4.out
        try simp only [Act.put,List.setIfInBounds_toArray,List.set_cons_zero,List.set_cons_succ]
        obtain ⟨l0,l1,l2,l3,l4⟩:=HBW.out _ QW4.out
        refine anyE_take0 (i:=16) (o:={ dst:=some 68,op:=Op.nilCheck (Operand.tmp 52),type:=0,pos := "accel.go:56",after:=#[{ on:=0,ground:=Ground.data },{ on:=0,ground:=Ground.phase },{ on:=1,ground:=Ground.textOnly Departure.lateStores },{ on:=2,ground:=Ground.phase },{ on:=3,ground:=Ground.phase },{ on:=4,ground:=Ground.phase },{ on:=5,ground:=Ground.phase },{ on:=6,ground:=Ground.phase },{ on:=7,ground:=Ground.phase },{ on:=8,ground:=Ground.phase },{ on:=9,ground:=Ground.textOnly Departure.lateStores },{ on:=10,ground:=Ground.textOnly Departure.lateStoresUnsure },{ on:=11,ground:=Ground.textOnly Departure.lateStoresUnsure },{ on:=12,ground:=Ground.phase },{ on:=13,ground:=Ground.textOnly Departure.lateStores },{ on:=14,ground:=Ground.textOnly Departure.lateStoresUnsure },{ on:=15,ground:=Ground.phase }],guard:=none }) (v:=?_) rfl (by kernel_rfl) (by kernel_rfl) (by kernel_rfl) (by decide) (fun _ _ _ h=>h) (Or.inl ⟨by rfl,?_⟩) (.inl (by kernel_rfl)) ?_
        rotate_left
        ·intro w9 hSw;go_simp;try with_reducible rfl
        try simp only [Act.put,List.setIfInBounds_toArray,List.set_cons_zero,List.set_cons_succ]
        refine anyE_take0 (i:=17) (o:={ dst:=some 69,op:=Op.fieldAddr 116 (Operand.tmp 68) 1,type:=0,pos := "accel.go:56",after:=#[{ on:=16,ground:=Ground.data },{ on:=0,ground:=Ground.phase },{ on:=1,ground:=Ground.textOnly Departure.lateStores },{ on:=2,ground:=Ground.phase },{ on:=3,ground:=Ground.phase },{ on:=4,ground:=Ground.phase },{ on:=5,ground:=Ground.phase },{ on:=6,ground:=Ground.phase },{ on:=7,ground:=Ground.phase },{ on:=8,ground:=Ground.phase },{ on:=9,ground:=Ground.textOnly Departure.lateStores },{ on:=10,ground:=Ground.textOnly Departure.lateStoresUnsure },{ on:=11,ground:=Ground.textOnly Departure.lateStoresUnsure },{ on:=12,ground:=Ground.phase },{ on:=13,ground:=Ground.textOnly Departure.lateStores },{ on:=14,ground:=Ground.textOnly Departure.lateStoresUnsure },{ on:=15,ground:=Ground.phase }],guard:=none }) (v:=?_) rfl (by kernel_rfl) (by kernel_rfl) (by kernel_rfl) (by decide) (fun _ _ _ h=>h) (Or.inl ⟨by rfl,?_⟩) (.inl (by kernel_rfl)) ?_
        rotate_left
        ·intro w9 hSw;go_simp;try with_reducible rfl
        try simp only [Act.put,List.setIfInBounds_toArray,List.set_cons_zero,List.set_cons_succ]
        refine anyE_ready (rs:=[18]) (by kernel_rfl) (by simp) ?_
        refine allE_cons (o:={ dst:=none,op:=Op.store 113 (Operand.tmp 69) (Operand.tmp 60),type:=0,pos := "accel.go:56",after:=#[{ on:=17,ground:=Ground.data },{ on:=8,ground:=Ground.data },{ on:=15,ground:=Ground.chain },{ on:=0,ground:=Ground.phase },{ on:=1,ground:=Ground.textOnly Departure.lateStores },{ on:=2,ground:=Ground.phase },{ on:=3,ground:=Ground.phase },{ on:=4,ground:=Ground.phase },{ on:=5,ground:=Ground.phase },{ on:=6,ground:=Ground.phase },{ on:=7,ground:=Ground.phase },{ on:=8,ground:=Ground.phase },{ on:=9,ground:=Ground.textOnly Departure.lateStores },{ on:=10,ground:=Ground.textOnly Departure.lateStoresUnsure },{ on:=11,ground:=Ground.textOnly Departure.lateStoresUnsure },{ on:=12,ground:=Ground.phase },{ on:=13,ground:=Ground.textOnly Departure.lateStores },{ on:=14,ground:=Ground.textOnly Departure.lateStoresUnsure },{ on:=15,ground:=Ground.phase }],guard:=none }) rfl (fun K hK=>?_) allE_nil
        go_simp;refine hK.out _ _ (.inl (by kernel_rfl)) ?_;clear hK K
        try simp only [Act.put,List.setIfInBounds_toArray,List.set_cons_zero,List.set_cons_succ]
        refine anyE_take0 (i:=19) (o:={ dst:=some 70,op:=Op.nilCheck (Operand.tmp 53),type:=0,pos := "accel.go:56",after:=#[{ on:=1,ground:=Ground.data },{ on:=0,ground:=Ground.phase },{ on:=1,ground:=Ground.phase },{ on:=2,ground:=Ground.phase },{ on:=3,ground:=Ground.phase },{ on:=4,ground:=Ground.phase },{ on:=5,ground:=Ground.phase },{ on:=6,ground:=Ground.phase },{ on:=7,ground:=Ground.phase },{ on:=8,ground:=Ground.phase },{ on:=9,ground:=Ground.phase },{ on:=10,ground:=Ground.phase },{ on:=11,ground:=Ground.phase },{ on:=12,ground:=Ground.phase },{ on:=13,ground:=Ground.phase },{ on:=14,ground:=Ground.phase },{ on:=15,ground:=Ground.phase },{ on:=16,ground:=Ground.phase },{ on:=17,ground:=Ground.phase },{ on:=18,ground:=Ground.phase }],guard:=none }) (v:=?_) rfl (by kernel_rfl) (by kernel_rfl) (by kernel_rfl) (by decide) (fun _ _ _ h=>h) (Or.inl ⟨by rfl,?_⟩) (.inl (by kernel_rfl)) ?_
        rotate_left
        ·intro w9 hSw;go_simp;try with_reducible rfl
        try simp only [Act.put,List.setIfInBounds_toArray,List.set_cons_zero,List.set_cons_succ]
        refine anyE_take0 (i:=20) (o:={ dst:=some 71,op:=Op.fieldAddr 116 (Operand.tmp 70) 2,type:=0,pos := "accel.go:56",after:=#[{ on:=19,ground:=Ground.data },{ on:=0,ground:=Ground.phase },{ on:=1,ground:=Ground.phase },{ on:=2,ground:=Ground.phase },{ on:=3,ground:=Ground.phase },{ on:=4,ground:=Ground.phase },{ on:=5,ground:=Ground.phase },{ on:=6,ground:=Ground.phase },{ on:=7,ground:=Ground.phase },{ on:=8,ground:=Ground.phase },{ on:=9,ground:=Ground.phase },{ on:=10,ground:=Ground.phase },{ on:=11,ground:=Ground.phase },{ on:=12,ground:=Ground.phase },{ on:=13,ground:=Ground.phase },{ on:=14,ground:=Ground.phase },{ on:=15,ground:=Ground.phase },{ on:=16,ground:=Ground.phase },{ on:=17,ground:=Ground.phase },{ on:=18,ground:=Ground.phase }],guard:=none }) (v:=?_) rfl (by kernel_rfl) (by kernel_rfl) (by kernel_rfl) (by decide) (fun _ _ _ h=>h) (Or.inl ⟨by rfl,?_⟩) (.inl (by kernel_rfl)) ?_
        rotate_left
        ·intro w9 hSw;go_simp;try with_reducible rfl
        try simp only [Act.put,List.setIfInBounds_toArray,List.set_cons_zero,List.set_cons_succ]
        refine anyE_ready (rs:=[21]) (by kernel_rfl) (by simp) ?_
        refine allE_cons (o:={ dst:=none,op:=Op.store 114 (Operand.tmp 71) (Operand.tmp 67),type:=0,pos := "accel.go:56",after:=#[{ on:=20,ground:=Ground.data },{ on:=15,ground:=Ground.data },{ on:=18,ground:=Ground.chain },{ on:=0,ground:=Ground.phase },{ on:=1,ground:=Ground.phase },{ on:=2,ground:=Ground.phase },{ on:=3,ground:=Ground.phase },{ on:=4,ground:=Ground.phase },{ on:=5,ground:=Ground.phase },{ on:=6,ground:=Ground.phase },{ on:=7,ground:=Ground.phase },{ on:=8,ground:=Ground.phase },{ on:=9,ground:=Ground.phase },{ on:=10,ground:=Ground.phase },{ on:=11,ground:=Ground.phase },{ on:=12,ground:=Ground.phase },{ on:=13,ground:=Ground.phase },{ on:=14,ground:=Ground.phase },{ on:=15,ground:=Ground.phase },{ on:=16,ground:=Ground.phase },{ on:=17,ground:=Ground.phase },{ on:=18,ground:=Ground.phase }],guard:=none }) rfl (fun K hK=>?_) allE_nil
        go_simp;refine hK.out _ _ (.inl (by kernel_rfl)) ?_;clear hK K
        try simp only [Act.put,List.setIfInBounds_toArray,List.set_cons_zero,List.set_cons_succ]
        refine anyE_done (by kernel_rfl) ?_ _
        go_wp2
        have REL:=FIN1.out _ _ _ _ _ QW4.out Y8.out Y15.out
        go_roundg 0
        case measure=>omega
        case rel=>exact REL
     refine allE_cons (o:={ dst:=some 66,op:=Op.buildSlice 114 1 #[(0,Operand.tmp 65)],type:=114,pos := "accel.go:56",after:=#[{ on:=13,ground:=Ground.data }],guard:=none }) rfl (fun K hK=>?_) allE_nil
     ·(go_simp; refine hK.out _ _ (.inr (.inr (HSS.out _ (QW1.out.new _)))) ?_; clear hK K)
      have K14:Hid ((W1.alloc (.cells #[.int .i64 0,.int .i64 3,.int .i64 10,.int .i64 9,.int .u32 0,.slice a 1 c] 123)).heap[W1.heap.size]? = some (.cells #[.int .i64 0,.int .i64 3,.int .i64 10,.int .i64 9,.int .u32 0,.slice a 1 c] 123)):=hidS (Go.Mine.heap_alloc_new W1 _)
      have QW2:Hid (Turned (fun _=>False) X (W1.alloc (.cells #[.int .i64 0,.int .i64 3,.int .i64 10,.int .i64 9,.int .u32 0,.slice a 1 c] 123))):=hidS (QW1.out.new _)
      have K7x:Hid _:=hidS (boxed K7.out (Turned.alloc (fun _=>False) W1 (.cells #[.int .i64 0,.int .i64 3,.int .i64 10,.int .i64 9,.int .u32 0,.slice a 1 c] 123)) id);clear K7;have K7:Hid _:=hidS K7x.out;clear K7x
      generalize W1.alloc (.cells #[.int .i64 0,.int .i64 3,.int .i64 10,.int .i64 9,.int .u32 0,.slice a 1 c] 123)=W2 at *
      generalize W1.heap.size=b14 at *
      have hS0:=HSS.out _ QW2.out
      try simp only [Act.put,List.setIfInBounds_toArray,List.set_cons_zero,List.set_cons_succ]
      refine anyE_ready (rs:=[8]) (by kernel_rfl) (by simp) ?_
      refine allE_cons (o:={ dst:=some 60,op:=Op.call { callee:=Callee.builtin Builtin.append,args:=#[Operand.tmp 57,Operand.tmp 59],argTypes:=#[113,113] },type:=113,pos := "accel.go:56",after:=#[{ on:=5,ground:=Ground.data },{ on:=7,ground:=Ground.data }],guard:=none }) rfl (fun K hK=>?_) allE_nil
      ·refine step_append (by rfl) _ _ 113 113 (by rfl) (Sl.nil _ (fun _ => False) 120 3) Tryz.underlying113 infoC120 rfl (by decide) (by rfl) (.slice (some ⟨b7, 0, none⟩) 1 1) (by rfl) (src120_at [.int .i64 0, .int .i64 1, .int .u32 (sm : Nat)] rfl (by simp [Value.oneCell']) K7.out) (by decide) (by decide) ?_
       intro v8 W3 hs8 ht8
       obtain ⟨a8,c8,rfl,-,-⟩:=hs8.value
       have QW3:Hid (Turned (fun _=>False) X W3):=hidS (QW2.out.trans ht8 fun _ _ z=>z)
       have Y8:Hid (Sl W3 (fun b=>w.heap.size<b∧M≤b) 120 3 (.slice a8 1 c8) [.int .i64 0,.int .i64 1,.int .u32 (sm:Nat)] 1):=hidS (hs8.widen fun b z=>z.elim False.elim fun z=>HM.out _ b QW2.out z)
       have K7x:Hid _:=hidS (boxed K7.out ht8 id);clear K7;have K7:Hid _:=hidS K7x.out;clear K7x
       have K14x:Hid _:=hidS (boxed K14.out ht8 id);clear K14;have K14:Hid _:=hidS K14x.out;clear K14x
       refine hK.out _ _ (.inr (.inr (HSS.out _ QW3.out))) ?_
       clear hK K hs8 ht8
       have hS0:=HSS.out _ QW3.out
       try simp only [Act.put,List.setIfInBounds_toArray,List.set_cons_zero,List.set_cons_succ]
       refine anyE_ready (rs:=[15]) (by kernel_rfl) (by simp) ?_
       refine allE_cons (o:={ dst:=some 67,op:=Op.call { callee:=Callee.builtin Builtin.append,args:=#[Operand.tmp 64,Operand.tmp 66],argTypes:=#[114,114] },type:=114,pos := "accel.go:56",after:=#[{ on:=12,ground:=Ground.data },{ on:=14,ground:=Ground.data },{ on:=8,ground:=Ground.chain }],guard:=none }) rfl (fun K hK=>?_) allE_nil
       ·refine step_append (by rfl) _ _ 114 114 (by rfl) (Sl.nil _ (fun _ => False) 123 6) Tryz.underlying114 infoC123 rfl (by decide) (by rfl) (.slice (some ⟨b14, 0, none⟩) 1 1) (by rfl) (src123_at [.int .i64 0, .int .i64 3, .int .i64 10, .int .i64 9, .int .u32 0, .slice a 1 c] rfl (by simp [Value.oneCell']) K14.out) (by decide) (by decide) ?_
        intro v15 W4 hs15 ht15
        obtain ⟨a15,c15,rfl,-,-⟩:=hs15.value
        have QW4:Hid (Turned (fun _=>False) X W4):=hidS (QW3.out.trans ht15 fun _ _ z=>z)
        have Y15:Hid (Sl W4 (fun b=>w.heap.size<b∧M≤b) 123 6 (.slice a15 1 c15) [.int .i64 0,.int .i64 3,.int .i64 10,.int .i64 9,.int .u32 0,.slice a 1 c] 1):=hidS (hs15.widen fun b z=>z.elim False.elim fun z=>HM.out _ b QW3.out z)
        have K7x:Hid _:=hidS (boxed K7.out ht15 id);clear K7;have K7:Hid _:=hidS K7x.out;clear K7x
        have K14x:Hid _:=hidS (boxed K14.out ht15 id);clear K14;have K14:Hid _:=hidS K14x.out;clear K14x
        have Y8x:Hid _:=hidS (Y8.out.turned ht15 fun _ _ z=>z);clear Y8;have Y8:Hid _:=hidS Y8x.out;clear Y8x
        refine hK.out _ _ (.inr (.inl rfl)) ?_
        clear hK K hs15 ht15
        have hS0:=HSS.out _ QW4.out
        try simp only [Act.put,List.setIfInBounds_toArray,List.set_cons_zero,List.set_cons_succ]
        obtain ⟨l0,l1,l2,l3,l4⟩:=HBW.out _ QW4.out
        refine anyE_take0 (i:=16) (o:={ dst:=some 68,op:=Op.nilCheck (Operand.tmp 52),type:=0,pos := "accel.go:56",after:=#[{ on:=0,ground:=Ground.data },{ on:=0,ground:=Ground.phase },{ on:=1,ground:=Ground.textOnly Departure.lateStores },{ on:=2,ground:=Ground.phase },{ on:=3,ground:=Ground.phase },{ on:=4,ground:=Ground.phase },{ on:=5,ground:=Ground.phase },{ on:=6,ground:=Ground.phase },{ on:=7,ground:=Ground.phase },{ on:=8,ground:=Ground.phase },{ on:=9,ground:=Ground.textOnly Departure.lateStores },{ on:=10,ground:=Ground.textOnly Departure.lateStoresUnsure },{ on:=11,ground:=Ground.textOnly Departure.lateStoresUnsure },{ on:=12,ground:=Ground.phase },{ on:=13,ground:=Ground.textOnly Departure.lateStores },{ on:=14,ground:=Ground.textOnly Departure.lateStoresUnsure },{ on:=15,ground:=Ground.phase }],guard:=none }) (v:=?_) rfl (by kernel_rfl) (by kernel_rfl) (by kernel_rfl) (by decide) (fun _ _ _ h=>h) (Or.inl ⟨by rfl,?_⟩) (.inl (by kernel_rfl)) ?_
        rotate_left
        ·intro w9 hSw;go_simp;try with_reducible rfl
        try simp only [Act.put,List.setIfInBounds_toArray,List.set_cons_zero,List.set_cons_succ]
        refine anyE_take0 (i:=17) (o:={ dst:=some 69,op:=Op.fieldAddr 116 (Operand.tmp 68) 1,type:=0,pos := "accel.go:56",after:=#[{ on:=16,ground:=Ground.data },{ on:=0,ground:=Ground.phase },{ on:=1,ground:=Ground.textOnly Departure.lateStores },{ on:=2,ground:=Ground.phase },{ on:=3,ground:=Ground.phase },{ on:=4,ground:=Ground.phase },{ on:=5,ground:=Ground.phase },{ on:=6,ground:=Ground.phase },{ on:=7,ground:=Ground.phase },{ on:=8,ground:=Ground.phase },{ on:=9,ground:=Ground.textOnly Departure.lateStores },{ on:=10,ground:=Ground.textOnly Departure.lateStoresUnsure },{ on:=11,ground:=Ground.textOnly Departure.lateStoresUnsure },{ on:=12,ground:=Ground.phase },{ on:=13,ground:=Ground.textOnly Departure.lateStores },{ on:=14,ground:=Ground.textOnly Departure.lateStoresUnsure },{ on:=15,ground:=Ground.phase }],guard:=none }) (v:=?_) rfl (by kernel_rfl) (by kernel_rfl) (by kernel_rfl) (by decide) (fun _ _ _ h=>h) (Or.inl ⟨by rfl,?_⟩) (.inl (by kernel_rfl)) ?_
        rotate_left
        ·intro w9 hSw;go_simp;try with_reducible rfl
        try simp only [Act.put,List.setIfInBounds_toArray,List.set_cons_zero,List.set_cons_succ]
        refine anyE_ready (rs:=[18]) (by kernel_rfl) (by simp) ?_
        refine allE_cons (o:={ dst:=none,op:=Op.store 113 (Operand.tmp 69) (Operand.tmp 60),type:=0,pos := "accel.go:56",after:=#[{ on:=17,ground:=Ground.data },{ on:=8,ground:=Ground.data },{ on:=15,ground:=Ground.chain },{ on:=0,ground:=Ground.phase },{ on:=1,ground:=Ground.textOnly Departure.lateStores },{ on:=2,ground:=Ground.phase },{ on:=3,ground:=Ground.phase },{ on:=4,ground:=Ground.phase },{ on:=5,ground:=Ground.phase },{ on:=6,ground:=Ground.phase },{ on:=7,ground:=Ground.phase },{ on:=8,ground:=Ground.phase },{ on:=9,ground:=Ground.textOnly Departure.lateStores },{ on:=10,ground:=Ground.textOnly Departure.lateStoresUnsure },{ on:=11,ground:=Ground.textOnly Departure.lateStoresUnsure },{ on:=12,ground:=Ground.phase },{ on:=13,ground:=Ground.textOnly Departure.lateStores },{ on:=14,ground:=Ground.textOnly Departure.lateStoresUnsure },{ on:=15,ground:=Ground.phase }],guard:=none }) rfl (fun K hK=>?_) allE_nil
        go_simp;refine hK.out _ _ (.inl (by kernel_rfl)) ?_;clear hK K
        try simp only [Act.put,List.setIfInBounds_toArray,List.set_cons_zero,List.set_cons_succ]
        refine anyE_take0 (i:=19) (o:={ dst:=some 70,op:=Op.nilCheck (Operand.tmp 53),type:=0,pos := "accel.go:56",after:=#[{ on:=1,ground:=Ground.data },{ on:=0,ground:=Ground.phase },{ on:=1,ground:=Ground.phase },{ on:=2,ground:=Ground.phase },{ on:=3,ground:=Ground.phase },{ on:=4,ground:=Ground.phase },{ on:=5,ground:=Ground.phase },{ on:=6,ground:=Ground.phase },{ on:=7,ground:=Ground.phase },{ on:=8,ground:=Ground.phase },{ on:=9,ground:=Ground.phase },{ on:=10,ground:=Ground.phase },{ on:=11,ground:=Ground.phase },{ on:=12,ground:=Ground.phase },{ on:=13,ground:=Ground.phase },{ on:=14,ground:=Ground.phase },{ on:=15,ground:=Ground.phase },{ on:=16,ground:=Ground.phase },{ on:=17,ground:=Ground.phase },{ on:=18,ground:=Ground.phase }],guard:=none }) (v:=?_) rfl (by kernel_rfl) (by kernel_rfl) (by kernel_rfl) (by decide) (fun _ _ _ h=>h) (Or.inl ⟨by rfl,?_⟩) (.inl (by kernel_rfl)) ?_
        rotate_left
        ·intro w9 hSw;go_simp;try with_reducible rfl
        try simp only [Act.put,List.setIfInBounds_toArray,List.set_cons_zero,List.set_cons_succ]
        refine anyE_take0 (i:=20) (o:={ dst:=some 71,op:=Op.fieldAddr 116 (Operand.tmp 70) 2,type:=0,pos := "accel.go:56",after:=#[{ on:=19,ground:=Ground.data },{ on:=0,ground:=Ground.phase },{ on:=1,ground:=Ground.phase },{ on:=2,ground:=Ground.phase },{ on:=3,ground:=Ground.phase },{ on:=4,ground:=Ground.phase },{ on:=5,ground:=Ground.phase },{ on:=6,ground:=Ground.phase },{ on:=7,ground:=Ground.phase },{ on:=8,ground:=Ground.phase },{ on:=9,ground:=Ground.phase },{ on:=10,ground:=Ground.phase },{ on:=11,ground:=Ground.phase },{ on:=12,ground:=Ground.phase },{ on:=13,ground:=Ground.phase },{ on:=14,ground:=Ground.phase },{ on:=15,ground:=Ground.phase },{ on:=16,ground:=Ground.phase },{ on:=17,ground:=Ground.phase },{ on:=18,ground:=Ground.phase }],guard:=none }) (v:=?_) rfl (by kernel_rfl) (by kernel_rfl) (by kernel_rfl) (by decide) (fun _ _ _ h=>h) (Or.inl ⟨by rfl,?_⟩) (.inl (by kernel_rfl)) ?_
        rotate_left
        ·intro w9 hSw;go_simp;try with_reducible rfl
        try simp only [Act.put,List.setIfInBounds_toArray,List.set_cons_zero,List.set_cons_succ]
        refine anyE_ready (rs:=[21]) (by kernel_rfl) (by simp) ?_
        refine allE_cons (o:={ dst:=none,op:=Op.store 114 (Operand.tmp 71) (Operand.tmp 67),type:=0,pos := "accel.go:56",after:=#[{ on:=20,ground:=Ground.data },{ on:=15,ground:=Ground.data },{ on:=18,ground:=Ground.chain },{ on:=0,ground:=Ground.phase },{ on:=1,ground:=Ground.phase },{ on:=2,ground:=Ground.phase },{ on:=3,ground:=Ground.phase },{ on:=4,ground:=Ground.phase },{ on:=5,ground:=Ground.phase },{ on:=6,ground:=Ground.phase },{ on:=7,ground:=Ground.phase },{ on:=8,ground:=Ground.phase },{ on:=9,ground:=Ground.phase },{ on:=10,ground:=Ground.phase },{ on:=11,ground:=Ground.phase },{ on:=12,ground:=Ground.phase },{ on:=13,ground:=Ground.phase },{ on:=14,ground:=Ground.phase },{ on:=15,ground:=Ground.phase },{ on:=16,ground:=Ground.phase },{ on:=17,ground:=Ground.phase },{ on:=18,ground:=Ground.phase }],guard:=none }) rfl (fun K hK=>?_) allE_nil
        go_simp;refine hK.out _ _ (.inl (by kernel_rfl)) ?_;clear hK K
        try simp only [Act.put,List.setIfInBounds_toArray,List.set_cons_zero,List.set_cons_succ]
        refine anyE_done (by kernel_rfl) ?_ _
        go_wp2
        have REL:=FIN1.out _ _ _ _ _ QW4.out Y8.out Y15.out
        go_roundg 0
        case measure=>omega
        case rel=>exact REL
    refine allE_cons (o:={ dst:=some 66,op:=Op.buildSlice 114 1 #[(0,Operand.tmp 65)],type:=114,pos := "accel.go:56",after:=#[{ on:=13,ground:=Ground.data }],guard:=none }) rfl (fun K hK=>?_) allE_nil
    ·(go_simp; refine hK.out _ _ (.inr (.inr (HSS.out _ (QW0.out.new _)))) ?_; clear hK K)
     have K14:Hid ((W0.alloc (.cells #[.int .i64 0,.int .i64 3,.int .i64 10,.int .i64 9,.int .u32 0,.slice a 1 c] 123)).heap[W0.heap.size]? = some (.cells #[.int .i64 0,.int .i64 3,.int .i64 10,.int .i64 9,.int .u32 0,.slice a 1 c] 123)):=hidS (Go.Mine.heap_alloc_new W0 _)
     have QW1:Hid (Turned (fun _=>False) X (W0.alloc (.cells #[.int .i64 0,.int .i64 3,.int .i64 10,.int .i64 9,.int .u32 0,.slice a 1 c] 123))):=hidS (QW0.out.new _)
     generalize W0.alloc (.cells #[.int .i64 0,.int .i64 3,.int .i64 10,.int .i64 9,.int .u32 0,.slice a 1 c] 123)=W1 at *
     generalize W0.heap.size=b14 at *
     have hS0:=HSS.out _ QW1.out
     try simp only [Act.put,List.setIfInBounds_toArray,List.set_cons_zero,List.set_cons_succ]
     refine anyE_ready (rs:=[7]) (by kernel_rfl) (by simp) ?_
     refine allE_cons (o:={ dst:=some 59,op:=Op.buildSlice 113 1 #[(0,Operand.tmp 58)],type:=113,pos := "accel.go:56",after:=#[{ on:=6,ground:=Ground.data }],guard:=none }) rfl (fun K hK=>?_) allE_nil
     ·(go_simp; refine hK.out _ _ (.inr (.inr (HSS.out _ (QW1.out.new _)))) ?_; clear hK K)
      have K7:Hid ((W1.alloc (.cells #[.int .i64 0,.int .i64 1,.int .u32 (sm:Nat)] 120)).heap[W1.heap.size]? = some (.cells #[.int .i64 0,.int .i64 1,.int .u32 (sm:Nat)] 120)):=hidS (Go.Mine.heap_alloc_new W1 _)
      have QW2:Hid (Turned (fun _=>False) X (W1.alloc (.cells #[.int .i64 0,.int .i64 1,.int .u32 (sm:Nat)] 120))):=hidS (QW1.out.new _)
      have K14x:Hid _:=hidS (boxed K14.out (Turned.alloc (fun _=>False) W1 (.cells #[.int .i64 0,.int .i64 1,.int .u32 (sm:Nat)] 120)) id);clear K14;have K14:Hid _:=hidS K14x.out;clear K14x
      generalize W1.alloc (.cells #[.int .i64 0,.int .i64 1,.int .u32 (sm:Nat)] 120)=W2 at *
      generalize W1.heap.size=b7 at *
      have hS0:=HSS.out _ QW2.out
      try simp only [Act.put,List.setIfInBounds_toArray,List.set_cons_zero,List.set_cons_succ]
      refine anyE_ready (rs:=[8]) (by kernel_rfl) (by simp) ?_
      refine allE_cons (o:={ dst:=some 60,op:=Op.call { callee:=Callee.builtin Builtin.append,args:=#[Operand.tmp 57,Operand.tmp 59],argTypes:=#[113,113] },type:=113,pos := "accel.go:56",after:=#[{ on:=5,ground:=Ground.data },{ on:=7,ground:=Ground.data }],guard:=none }) rfl (fun K hK=>?_) allE_nil
      ·refine step_append (by rfl) _ _ 113 113 (by rfl) (Sl.nil _ (fun _ => False) 120 3) Tryz.underlying113 infoC120 rfl (by decide) (by rfl) (.slice (some ⟨b7, 0, none⟩) 1 1) (by rfl) (src120_at [.int .i64 0, .int .i64 1, .int .u32 (sm : Nat)] rfl (by simp [Value.oneCell']) K7.out) (by decide) (by decide) ?_
       intro v8 W3 hs8 ht8
       obtain ⟨a8,c8,rfl,-,-⟩:=hs8.value
       have QW3:Hid (Turned (fun _=>False) X W3):=hidS (QW2.out.trans ht8 fun _ _ z=>z)
       have Y8:Hid (Sl W3 (fun b=>w.heap.size<b∧M≤b) 120 3 (.slice a8 1 c8) [.int .i64 0,.int .i64 1,.int .u32 (sm:Nat)] 1):=hidS (hs8.widen fun b z=>z.elim False.elim fun z=>HM.out _ b QW2.out z)
       have K14x:Hid _:=hidS (boxed K14.out ht8 id);clear K14;have K14:Hid _:=hidS K14x.out;clear K14x
       have K7x:Hid _:=hidS (boxed K7.out ht8 id);clear K7;have K7:Hid _:=hidS K7x.out;clear K7x
       refine hK.out _ _ (.inr (.inr (HSS.out _ QW3.out))) ?_
       clear hK K hs8 ht8
       have hS0:=HSS.out _ QW3.out
       try simp only [Act.put,List.setIfInBounds_toArray,List.set_cons_zero,List.set_cons_succ]
       refine anyE_ready (rs:=[15]) (by kernel_rfl) (by simp) ?_
       refine allE_cons (o:={ dst:=some 67,op:=Op.call { callee:=Callee.builtin Builtin.append,args:=#[Operand.tmp 64,Operand.tmp 66],argTypes:=#[114,114] },type:=114,pos := "accel.go:56",after:=#[{ on:=12,ground:=Ground.data },{ on:=14,ground:=Ground.data },{ on:=8,ground:=Ground.chain }],guard:=none }) rfl (fun K hK=>?_) allE_nil
       ·refine step_append (by rfl) _ _ 114 114 (by rfl) (Sl.nil _ (fun _ => False) 123 6) Tryz.underlying114 infoC123 rfl (by decide) (by rfl) (.slice (some ⟨b14, 0, none⟩) 1 1) (by rfl) (src123_at [.int .i64 0, .int .i64 3, .int .i64 10, .int .i64 9, .int .u32 0, .slice a 1 c] rfl (by simp [Value.oneCell']) K14.out) (by decide) (by decide) ?_
        intro v15 W4 hs15 ht15
        obtain ⟨a15,c15,rfl,-,-⟩:=hs15.value
        have QW4:Hid (Turned (fun _=>False) X W4):=hidS (QW3.out.trans ht15 fun _ _ z=>z)
        have Y15:Hid (Sl W4 (fun b=>w.heap.size<b∧M≤b) 123 6 (.slice a15 1 c15) [.int .i64 0,.int .i64 3,.int .i64 10,.int .i64 9,.int .u32 0,.slice a 1 c] 1):=hidS (hs15.widen fun b z=>z.elim False.elim fun z=>HM.out _ b QW3.out z)
        have K14x:Hid _:=hidS (boxed K14.out ht15 id);clear K14;have K14:Hid _:=hidS K14x.out;clear K14x
        have K7x:Hid _:=hidS (boxed K7.out ht15 id);clear K7;have K7:Hid _:=hidS K7x.out;clear K7x
        have Y8x:Hid _:=hidS (Y8.out.turned ht15 fun _ _ z=>z);clear Y8;have Y8:Hid _:=hidS Y8x.out;clear Y8x
        refine hK.out _ _ (.inr (.inl rfl)) ?_
        clear hK K hs15 ht15
        have hS0:=HSS.out _ QW4.out
        try simp only [Act.put,List.setIfInBounds_toArray,List.set_cons_zero,List.set_cons_succ]
        obtain ⟨l0,l1,l2,l3,l4⟩:=HBW.out _ QW4.out
        refine anyE_take0 (i:=16) (o:={ dst:=some 68,op:=Op.nilCheck (Operand.tmp 52),type:=0,pos := "accel.go:56",after:=#[{ on:=0,ground:=Ground.data },{ on:=0,ground:=Ground.phase },{ on:=1,ground:=Ground.textOnly Departure.lateStores },{ on:=2,ground:=Ground.phase },{ on:=3,ground:=Ground.phase },{ on:=4,ground:=Ground.phase },{ on:=5,ground:=Ground.phase },{ on:=6,ground:=Ground.phase },{ on:=7,ground:=Ground.phase },{ on:=8,ground:=Ground.phase },{ on:=9,ground:=Ground.textOnly Departure.lateStores },{ on:=10,ground:=Ground.textOnly Departure.lateStoresUnsure },{ on:=11,ground:=Ground.textOnly Departure.lateStoresUnsure },{ on:=12,ground:=Ground.phase },{ on:=13,ground:=Ground.textOnly Departure.lateStores },{ on:=14,ground:=Ground.textOnly Departure.lateStoresUnsure },{ on:=15,ground:=Ground.phase }],guard:=none }) (v:=?_) rfl (by kernel_rfl) (by kernel_rfl) (by kernel_rfl) (by decide) (fun _ _ _ h=>h) (Or.inl ⟨by rfl,?_⟩) (.inl (by kernel_rfl)) ?_
        rotate_left
        ·intro w9 hSw;go_simp;try with_reducible rfl
        try simp only [Act.put,List.setIfInBounds_toArray,List.set_cons_zero,List.set_cons_succ]
        refine anyE_take0 (i:=17) (o:={ dst:=some 69,op:=Op.fieldAddr 116 (Operand.tmp 68) 1,type:=0,pos := "accel.go:56",after:=#[{ on:=16,ground:=Ground.data },{ on:=0,ground:=Ground.phase },{ on:=1,ground:=Ground.textOnly Departure.lateStores },{ on:=2,ground:=Ground.phase },{ on:=3,ground:=Ground.phase },{ on:=4,ground:=Ground.phase },{ on:=5,ground:=Ground.phase },{ on:=6,ground:=Ground.phase },{ on:=7,ground:=Ground.phase },{ on:=8,ground:=Ground.phase },{ on:=9,ground:=Ground.textOnly Departure.lateStores },{ on:=10,ground:=Ground.textOnly Departure.lateStoresUnsure },{ on:=11,ground:=Ground.textOnly Departure.lateStoresUnsure },{ on:=12,ground:=Ground.phase },{ on:=13,ground:=Ground.textOnly Departure.lateStores },{ on:=14,ground:=Ground.textOnly Departure.lateStoresUnsure },{ on:=15,ground:=Ground.phase }],guard:=none }) (v:=?_) rfl (by kernel_rfl) (by kernel_rfl) (by kernel_rfl) (by decide) (fun _ _ _ h=>h) (Or.inl ⟨by rfl,?_⟩) (.inl (by kernel_rfl)) ?_
        rotate_left
        ·intro w9 hSw;go_simp;try with_reducible rfl
        try simp only [Act.put,List.setIfInBounds_toArray,List.set_cons_zero,List.set_cons_succ]
        refine anyE_ready (rs:=[18]) (by kernel_rfl) (by simp) ?_
        refine allE_cons (o:={ dst:=none,op:=Op.store 113 (Operand.tmp 69) (Operand.tmp 60),type:=0,pos := "accel.go:56",after:=#[{ on:=17,ground:=Ground.data },{ on:=8,ground:=Ground.data },{ on:=15,ground:=Ground.chain },{ on:=0,ground:=Ground.phase },{ on:=1,ground:=Ground.textOnly Departure.lateStores },{ on:=2,ground:=Ground.phase },{ on:=3,ground:=Ground.phase },{ on:=4,ground:=Ground.phase },{ on:=5,ground:=Ground.phase },{ on:=6,ground:=Ground.phase },{ on:=7,ground:=Ground.phase },{ on:=8,ground:=Ground.phase },{ on:=9,ground:=Ground.textOnly Departure.lateStores },{ on:=10,ground:=Ground.textOnly Departure.lateStoresUnsure },{ on:=11,ground:=Ground.textOnly Departure.lateStoresUnsure },{ on:=12,ground:=Ground.phase },{ on:=13,ground:=Ground.textOnly Departure.lateStores },{ on:=14,ground:=Ground.textOnly Departure.lateStoresUnsure },{ on:=15,ground:=Ground.phase }],guard:=none }) rfl (fun K hK=>?_) allE_nil
        go_simp;refine hK.out _ _ (.inl (by kernel_rfl)) ?_;clear hK K
        try simp only [Act.put,List.setIfInBounds_toArray,List.set_cons_zero,List.set_cons_succ]
        refine anyE_take0 (i:=19) (o:={ dst:=some 70,op:=Op.nilCheck (Operand.tmp 53),type:=0,pos := "accel.go:56",after:=#[{ on:=1,ground:=Ground.data },{ on:=0,ground:=Ground.phase },{ on:=1,ground:=Ground.phase },{ on:=2,ground:=Ground.phase },{ on:=3,ground:=Ground.phase },{ on:=4,ground:=Ground.phase },{ on:=5,ground:=Ground.phase },{ on:=6,ground:=Ground.phase },{ on:=7,ground:=Ground.phase },{ on:=8,ground:=Ground.phase },{ on:=9,ground:=Ground.phase },{ on:=10,ground:=Ground.phase },{ on:=11,ground:=Ground.phase },{ on:=12,ground:=Ground.phase },{ on:=13,ground:=Ground.phase },{ on:=14,ground:=Ground.phase },{ on:=15,ground:=Ground.phase },{ on:=16,ground:=Ground.phase },{ on:=17,ground:=Ground.phase },{ on:=18,ground:=Ground.phase }],guard:=none }) (v:=?_) rfl (by kernel_rfl) (by kernel_rfl) (by kernel_rfl) (by decide) (fun _ _ _ h=>h) (Or.inl ⟨by rfl,?_⟩) (.inl (by kernel_rfl)) ?_
        rotate_left
        ·intro w9 hSw;go_simp;try with_reducible rfl
        try simp only [Act.put,List.setIfInBounds_toArray,List.set_cons_zero,List.set_cons_succ]
        refine anyE_take0 (i:=20) (o:={ dst:=some 71,op:=Op.fieldAddr 116 (Operand.tmp 70) 2,type:=0,pos := "accel.go:56",after:=#[{ on:=19,ground:=Ground.data },{ on:=0,ground:=Ground.phase },{ on:=1,ground:=Ground.phase },{ on:=2,ground:=Ground.phase },{ on:=3,ground:=Ground.phase },{ on:=4,ground:=Ground.phase },{ on:=5,ground:=Ground.phase },{ on:=6,ground:=Ground.phase },{ on:=7,ground:=Ground.phase },{ on:=8,ground:=Ground.phase },{ on:=9,ground:=Ground.phase },{ on:=10,ground:=Ground.phase },{ on:=11,ground:=Ground.phase },{ on:=12,ground:=Ground.phase },{ on:=13,ground:=Ground.phase },{ on:=14,ground:=Ground.phase },{ on:=15,ground:=Ground.phase },{ on:=16,ground:=Ground.phase },{ on:=17,ground:=Ground.phase },{ on:=18,ground:=Ground.phase }],guard:=none }) (v:=?_) rfl (by kernel_rfl) (by kernel_rfl) (by kernel_rfl) (by decide) (fun _ _ _ h=>h) (Or.inl ⟨by rfl,?_⟩) (.inl (by kernel_rfl)) ?_
        rotate_left
        ·intro w9 hSw;go_simp;try with_reducible rfl
        try simp only [Act.put,List.setIfInBounds_toArray,List.set_cons_zero,List.set_cons_succ]
        refine anyE_ready (rs:=[21]) (by kernel_rfl) (by simp) ?_
        refine allE_cons (o:={ dst:=none,op:=Op.store 114 (Operand.tmp 71) (Operand.tmp 67),type:=0,pos := "accel.go:56",after:=#[{ on:=20,ground:=Ground.data },{ on:=15,ground:=Ground.data },{ on:=18,ground:=Ground.chain },{ on:=0,ground:=Ground.phase },{ on:=1,ground:=Ground.phase },{ on:=2,ground:=Ground.phase },{ on:=3,ground:=Ground.phase },{ on:=4,ground:=Ground.phase },{ on:=5,ground:=Ground.phase },{ on:=6,ground:=Ground.phase },{ on:=7,ground:=Ground.phase },{ on:=8,ground:=Ground.phase },{ on:=9,ground:=Ground.phase },{ on:=10,ground:=Ground.phase },{ on:=11,ground:=Ground.phase },{ on:=12,ground:=Ground.phase },{ on:=13,ground:=Ground.phase },{ on:=14,ground:=Ground.phase },{ on:=15,ground:=Ground.phase },{ on:=16,ground:=Ground.phase },{ on:=17,ground:=Ground.phase },{ on:=18,ground:=Ground.phase }],guard:=none }) rfl (fun K hK=>?_) allE_nil
        go_simp;refine hK.out _ _ (.inl (by kernel_rfl)) ?_;clear hK K
        try simp only [Act.put,List.setIfInBounds_toArray,List.set_cons_zero,List.set_cons_succ]
        refine anyE_done (by kernel_rfl) ?_ _
        go_wp2
        have REL:=FIN1.out _ _ _ _ _ QW4.out Y8.out Y15.out
        go_roundg 0
        case measure=>omega
        case rel=>exact REL
   ·rw [decide_eq_false hn] at HS2
    have HNn:Hid (¬ 1≤n):=hn
    clear hn
    go_wp2_with (go_at_call 55;(with_reducible refine (HS2.out _ (ht.out.new _)).mono ?_);rintro e w5 ⟨a,c,rfl,r5,t5,t6⟩;replace r5:Hid _:=hidS r5)
    have HE:XfPost w d sm n (.returned (.tuple #[pt w.heap.size,.int .i64 0])) (w5.alloc (.cells #[.int .i64 0,.int .i64 3,.int .i64 10,.int .i64 9,.int .u32 0,.slice a 1 c] 123)):=FIN0.out _ ((t5.trans (Turned.alloc _ _ _) fun _ _ z=>z)) HNn.out
    rw [HZ.out]
    exact HE
  ·replace hb : Hid _ := hidS (And.intro hb (And.intro h1 (And.intro h2 h3)))
   have HE:XfPost w d sm n (.returned (.tuple #[pt w.heap.size,.int .i64 0])) wr:=FIN2.out wr la lc ga gc a c M hn ht hb.out.1 hM hb.out.2.1 hb.out.2.2.1 hb.out.2.2.2
   clear h1 h2 h3 hn hM
   go_wp2
   rw [HZ.out]
   exact HE
end Go.Proofs.YtofcogekgcgjhaaGreatDoor
