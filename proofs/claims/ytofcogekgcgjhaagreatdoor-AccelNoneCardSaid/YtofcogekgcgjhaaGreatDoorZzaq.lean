/- Packed. -/
import Derived.Test.YtofcogekgcgjhaaGreatDoorZzap
set_option linter.unusedVariables false
set_option linter.unusedSimpArgs false
set_option maxRecDepth 100000
namespace Go.Proofs.YtofcogekgcgjhaaGreatDoor
open Go.RowKit Go.Mine
def rowCs:List Rw→List Value→List Value
 |r :: l,v :: vs=>[v,.int .i64 r.tree,.int .i64 r.gen,.int .i64 r.state,.string r.bits] ++ rowCs l vs
 |_,_=>[]
theorem rowCs_snoc:∀ (l:List Rw) (vs:List Value) (r:Rw) (v:Value),vs.length=l.length→rowCs (l ++ [r]) (vs ++ [v])=rowCs l vs ++ [v,.int .i64 r.tree,.int .i64 r.gen,.int .i64 r.state,.string r.bits]
 | [],[],_,_,_=>rfl
 |x :: l,y :: vs,r,v,h=>by
  simp only [List.cons_append,rowCs,List.append_assoc]
  rw [rowCs_snoc l vs r v (by simpa using h)]
def NewRows (w:World) (R Q:Nat→Prop) (v:Value) (l:List Rw):Prop:=
 ∃ vs:List Value,vs.length=l.length∧Sl w R 48 5 v (rowCs l vs) l.length∧∀ (i:Nat) (r:Rw) (u:Value),l[i]? = some r→vs[i]? = some u→Sl w Q 3 1 u (ncells r.par) r.par.length
def ReadPost (g:Gr) (w:World) (e:Ending) (w' : World):Prop:=
 Turned (fun _=>False) w w'∧∃ a c,e = .returned (grv a c g)∧NewRows w' (fun b=>w.heap.size≤b) (fun b=>w.heap.size≤b) (.slice a g.rows.length c) g.rows
def RdgRel (w:World) (cA cE cN cB:ByteArray) (pA pN pB N:Nat) (o:List Rw) (v0 v1 v2 v3 v4:Value) (g:Nat) (last i:Value) (wr:World):Prop:=
 ∃ (j la:Nat) (l:List Rw) (rv:Value) (R Q:Nat→Prop),(j+g=N∧i = .int .u32 (j:Nat)∧last = .int .i64 (la:Nat)∧l.length=j)∧(la≤cB.size∧15 * j≤cA.size∧4 * j≤cN.size)∧progRows cA cE cN cB g j la l=some o ∧
  wr.heap[w.heap.size]? = some (.cells #[.int .i64 0,.int .i64 0,.int .i64 0,.int .i64 0,.int .u32 0,.slice none 0 0] 123 (0,0))∧wr.heap[w.heap.size+1]? = some (.cells #[v0,v1,v2,v3,v4,rv] 123 (0,0))∧RdIs wr pA cA (15 * j,0)∧RdIs wr pN cN (4 * j,0)∧RdIs wr pB cB (la,0) ∧
  NewRows wr R Q rv l∧(∀ b,R b∨Q b→w.heap.size+2≤b∧b<wr.heap.size∧b≠pA∧b≠pN∧b≠pB)∧(∀ b,R b→¬ Q b)∧Turned (fun _=>False) w wr
theorem progRow_parts {cA cE cN cB:ByteArray} {j la nx:Nat} {r:Rw} (h:progRow cA cE cN cB j la=some (r,nx)):15 * j+15≤cA.size∧4 * j+4≤cN.size∧la≤nx∧nx≤cB.size∧nx=fld cN (4 * j) 4 ∧
  ∃ par,progPar (fld cA (15 * j+4) 4) (fld cA (15 * j+8) 4) cE=some par∧r=⟨par,fld cA (15 * j) 4,fld cA (15 * j+12) 2,fld cA (15 * j+14) 1,cB.extract la nx⟩:=by
 unfold progRow at h
 split at h
 ·simp at h
 ·split at h
  ·simp at h
  ·rename_i par hp
   split at h
   ·simp at h
   ·split at h
    ·simp at h
    ·split at h
     ·simp at h
     ·obtain ⟨rfl, rfl⟩ := Prod.mk.inj (Option.some.inj h)
      exact ⟨by omega,by omega,by omega,by omega,rfl,par,hp,rfl⟩
set_option maxHeartbeats 8000000 in
theorem read_good (a:Option Addr) (cap:Nat) (l:List Ch) (w:World) (h:ChIs w a cap l) (hz:∀ id,(datC l id).size≤4194304) (G0:Gr) (ho:progR l=some G0)
  (HP0:Hid (∀ (j:Nat) (par:List Int) (W:World),15 * j+15≤(datC l 2).size→progPar (fld (datC l 2) (15 * j+4) 4) (fld (datC l 2) (15 * j+8) 4) (datC l 3)=some par→Calls Tryz.prog 294 #[.int .u32 (fld (datC l 2) (15 * j+4) 4:Nat),.int .u32 (fld (datC l 2) (15 * j+8) 4:Nat),.string (datC l 3)] W fun e w'=>∃ pa pc,e = .returned (.slice pa par.length pc)∧Sl w' (fun b=>W.heap.size≤b) 3 1 (.slice pa par.length pc) (ncells par) par.length∧Turned (fun _=>False) W w')) :
  Calls Tryz.prog 217 #[.slice a l.length cap] w (ReadPost G0 w):=by
 unfold progR at ho
 have hd:∀ (id:Nat) (W:World),Turned (fun _=>False) w W→Calls Tryz.prog 288 #[.slice a l.length cap,.int .u32 (id:Nat)] W fun e w'=>∃ p,e = .returned (pt p)∧W.heap.size≤p∧RdIs w' p (datC l id) (0,0)∧Turned (fun _=>False) W w':=fun id W t=>data_any a cap l id W (h.turned t)
 have hd1:∀ (W:World),Turned (fun _=>False) w W→Calls Tryz.prog 288 #[.slice a l.length cap,.int .u32 1] W fun e w'=>∃ p,e = .returned (pt p)∧W.heap.size≤p∧RdIs w' p (datC l 1) (0,0)∧Turned (fun _=>False) W w':=hd 1
 have hd2:∀ (W:World),Turned (fun _=>False) w W→Calls Tryz.prog 288 #[.slice a l.length cap,.int .u32 2] W fun e w'=>∃ p,e = .returned (pt p)∧W.heap.size≤p∧RdIs w' p (datC l 2) (0,0)∧Turned (fun _=>False) W w':=hd 2
 have hd4:∀ (W:World),Turned (fun _=>False) w W→Calls Tryz.prog 288 #[.slice a l.length cap,.int .u32 4] W fun e w'=>∃ p,e = .returned (pt p)∧W.heap.size≤p∧RdIs w' p (datC l 4) (0,0)∧Turned (fun _=>False) W w':=hd 4
 have hd5:∀ (W:World),Turned (fun _=>False) w W→Calls Tryz.prog 288 #[.slice a l.length cap,.int .u32 5] W fun e w'=>∃ p,e = .returned (pt p)∧W.heap.size≤p∧RdIs w' p (datC l 5) (0,0)∧Turned (fun _=>False) W w':=hd 5
 have hf:∀ (W:World),Turned (fun _=>False) w W→Calls Tryz.prog 289 #[.slice a l.length cap,.int .u32 3] W fun e w'=>e = .returned (.tuple #[.string (datC l 3),.bool (findCh l 3).isSome])∧Turned (fun _=>False) W w':=fun W t=>find_any a cap l 3 W (h.turned t)
 have SZ:Hid ((datC l 1).size≤4194304∧(datC l 2).size≤4194304∧(datC l 3).size≤4194304∧(datC l 4).size≤4194304∧(datC l 5).size≤4194304):=⟨hz 1,hz 2,hz 3,hz 4,hz 5⟩
 clear hd hz h
 generalize datC l 1=cH at *
 generalize datC l 2=cA at *
 generalize datC l 3=cE at *
 generalize datC l 4=cN at *
 generalize datC l 5=cB at *
 generalize (findCh l 3).isSome=fb at *
 generalize l.length=L at *
 clear l
 have HO:Hid ((if cH.size<16 then none else (progRows cA cE cN cB (fld cH 4 4) 0 0 []).map fun rows=>(⟨fld cH 0 4,fld cH 8 1,fld cH 9 1,fld cH 10 2,fld cH 12 4,rows⟩:Gr))=some G0):=ho
 clear ho
 go_enter Tryz.func217,Tryz.ntmps217
 go_wp2_with (first
  |(go_at_call 288;(with_reducible refine (hd1 _ (((Turned.refl (fun _=>False) w).new _).new _)).mono ?_);rintro e w1 ⟨pH,rfl,hp1,hr1,ht1⟩;have A1:Hid (w.heap.size+2≤pH∧RdIs w1 pH cH (0,0)∧Turned (fun _=>False) w w1∧w1.heap[w.heap.size]? = some (.cells #[.int .i64 0,.int .i64 0,.int .i64 0,.int .i64 0,.int .u32 0,.slice none 0 0] 123 (0,0))∧w1.heap[w.heap.size+1]? = some (.cells #[.int .i64 0,.int .i64 0,.int .i64 0,.int .i64 0,.int .u32 0,.slice none 0 0] 123 (0,0))):=⟨by simpa using hp1,hr1,(((Turned.refl (fun _=>False) w).new _).new _).trans ht1 (fun _ _ q=>q),(ht1.block _ (by simp;omega) id).trans (Go.Mine.heap_alloc_old (heap_alloc_last w _)),(ht1.block _ (by simp) id).trans (by simpa using heap_alloc_last (w.alloc _) _)⟩;clear hp1 hr1 ht1)
  |(go_at_call 288;(with_reducible refine (hd2 _ A1.out.2.2.1).mono ?_);rintro e w2 ⟨pA,rfl,hp2,hr2,ht2⟩;have A2:Hid (w1.heap.size≤pA∧RdIs w2 pA cA (0,0)∧Turned (fun _=>False) w1 w2∧Turned (fun _=>False) w w2):=⟨hp2,hr2,ht2,A1.out.2.2.1.trans ht2 fun _ _ q=>q⟩;clear hp2 hr2 ht2)
  |(go_at_call 288;(with_reducible refine (hd4 _ A2.out.2.2.2).mono ?_);rintro e w3 ⟨pN,rfl,hp3,hr3,ht3⟩;have A3:Hid (w2.heap.size≤pN∧RdIs w3 pN cN (0,0)∧Turned (fun _=>False) w2 w3∧Turned (fun _=>False) w w3):=⟨hp3,hr3,ht3,A2.out.2.2.2.trans ht3 fun _ _ q=>q⟩;clear hp3 hr3 ht3)
  |(go_at_call 288;(with_reducible refine (hd5 _ A3.out.2.2.2).mono ?_);rintro e w4 ⟨pB,rfl,hp4,hr4,ht4⟩;have A4:Hid (w3.heap.size≤pB∧RdIs w4 pB cB (0,0)∧Turned (fun _=>False) w3 w4∧Turned (fun _=>False) w w4):=⟨hp4,hr4,ht4,A3.out.2.2.2.trans ht4 fun _ _ q=>q⟩;clear hp4 hr4 ht4)
  |(go_at_call 289;(with_reducible refine (hf _ A4.out.2.2.2).mono ?_);rintro e w5 ⟨rfl,ht5⟩;have A5:Hid (Turned (fun _=>False) w4 w5):=ht5;clear ht5))
 have B5:Hid (RdIs w5 pH cH (0,0)∧RdIs w5 pA cA (0,0)∧RdIs w5 pN cN (0,0)∧RdIs w5 pB cB (0,0)∧w5.heap[w.heap.size]? = some (.cells #[.int .i64 0,.int .i64 0,.int .i64 0,.int .i64 0,.int .u32 0,.slice none 0 0] 123 (0,0))∧w5.heap[w.heap.size+1]? = some (.cells #[.int .i64 0,.int .i64 0,.int .i64 0,.int .i64 0,.int .u32 0,.slice none 0 0] 123 (0,0))∧Turned (fun _=>False) w w5):=by
  have t5:=A5.out
  have t4:=A4.out.2.2.1.trans t5 fun _ _ q=>q
  have t3:=A3.out.2.2.1.trans t4 fun _ _ q=>q
  have t2:=A2.out.2.2.1.trans t3 fun _ _ q=>q
  have k1:=A1.out
  exact ⟨k1.2.1.turned t2 id,A2.out.2.1.turned t3 id,A3.out.2.1.turned t4 id,A4.out.2.1.turned t5 id,(t2.block _ (lt_of_block k1.2.2.2.1) id).trans k1.2.2.2.1,(t2.block _ (lt_of_block k1.2.2.2.2) id).trans k1.2.2.2.2,k1.2.2.1.trans t2 fun _ _ q=>q⟩
 have ORD:Hid (w.heap.size+2≤pH∧pH<pA∧pA<pN∧pN<pB∧pB<w5.heap.size):=by
  have l1:=lt_of_block A1.out.2.1
  have l2:=lt_of_block A2.out.2.1
  have l3:=lt_of_block A3.out.2.1
  have l4:=lt_of_block A4.out.2.1
  have s5:=A5.out.size
  have q:w.heap.size+2≤pH∧pH<pA∧pA<pN∧pN<pB∧pB<w5.heap.size:=⟨A1.out.1,by have:=A2.out.1;omega,by have:=A3.out.1;omega,by have:=A4.out.1;omega,by omega⟩
  exact q
 clear A1 A2 A3 A4 A5 hd1 hd2 hd4 hd5 hf
 obtain ⟨v0,hv0⟩:∃ v,v=fld cH 0 4:=⟨_,rfl⟩
 obtain ⟨v1,hv1⟩:∃ v,v=fld cH 4 4:=⟨_,rfl⟩
 obtain ⟨v2,hv2⟩:∃ v,v=fld cH 8 1:=⟨_,rfl⟩
 obtain ⟨v3,hv3⟩:∃ v,v=fld cH 9 1:=⟨_,rfl⟩
 obtain ⟨v4,hv4⟩:∃ v,v=fld cH 10 2:=⟨_,rfl⟩
 obtain ⟨v5,hv5⟩:∃ v,v=fld cH 12 4:=⟨_,rfl⟩
 have HV:Hid (v0=fld cH 0 4∧v1=fld cH 4 4∧v2=fld cH 8 1∧v3=fld cH 9 1∧v4=fld cH 10 2∧v5=fld cH 12 4):=⟨hv0,hv1,hv2,hv3,hv4,hv5⟩
 have g5:¬ cH.size<16:=fun q=>by have:=HO.out;rw [if_pos q]at this;cases this
 obtain ⟨o2,ho2,HR0⟩:∃ o2,progRows cA cE cN cB v1 0 0 []=some o2∧G0=⟨v0,v2,v3,v4,v5,o2⟩:=by
  have:=HO.out
  rw [if_neg g5,←hv0,←hv1,←hv2,←hv3,←hv4,←hv5]at this
  cases hq:progRows cA cE cN cB v1 0 0 [] with
  |none=>rw [hq]at this;cases this
  |some z=>rw [hq]at this;exact ⟨z,rfl,(Option.some.inj this).symm⟩
 have HR:Hid (G0=⟨v0,v2,v3,v4,v5,o2⟩):=HR0
 have HO2:Hid (progRows cA cE cN cB v1 0 0 []=some o2):=ho2
 have HC:Hid (16≤cH.size):=(by omega:16≤cH.size)
 have b0:v0<4294967296:=by rw [hv0];exact fld_lt cH 0 4 (by omega)
 have m0:=fun W=>must32_ok v0 W
 have b1:v1<4294967296:=by rw [hv1];exact fld_lt cH 4 4 (by omega)
 have m1:=fun W=>must32_ok v1 W
 have b2:v2<256:=by rw [hv2];exact fld_lt cH 8 1 (by omega)
 have m2:=fun W=>must8_ok v2 W
 have b3:v3<256:=by rw [hv3];exact fld_lt cH 9 1 (by omega)
 have m3:=fun W=>must8_ok v3 W
 have b4:v4<65536:=by rw [hv4];exact fld_lt cH 10 2 (by omega)
 have m4:=fun W=>must16_ok v4 W
 have b5:v5<4294967296:=by rw [hv5];exact fld_lt cH 12 4 (by omega)
 have m5:=fun W=>must32_ok v5 W
 clear g5 HR0 hv0 hv1 hv2 hv3 hv4 hv5 ho2
 have h0:Calls Tryz.prog 123 #[pt pH] w5 _:=numOk v0 4 (u32_r B5.out.1 (by have:=HC.out;simp only;omega) (by have:=SZ.out;omega)) (by have:=HC.out;omega) HV.out.1 rfl
 go_wp2_with (first
  |(go_at_call 123;(with_reducible refine h0.mono ?_);rintro e x0 ⟨rfl,hr,ht⟩;have S0:Hid (RdIs x0 pH cH (4,0)∧x0.heap[w.heap.size+1]? = some (.cells #[.int .i64 0,.int .i64 0,.int .i64 0,.int .i64 0,.int .u32 0,.slice none 0 0] 123 (0,0))∧Turned (fun b=>b=pH∨b=w.heap.size+1) w5 x0):=⟨hr,(ht.block _ (lt_of_block B5.out.2.2.2.2.2.1) (fun q=>by have:=ORD.out;omega)).trans B5.out.2.2.2.2.2.1,(Turned.refl (fun b=>b=pH∨b=w.heap.size+1) w5).trans ht (fun _ _ q=>.inl q)⟩;clear hr ht;have f0:=free_of S0.out.2.1 0;have c0:=cell_of S0.out.2.1 0 _ rfl;have y0:=lt_of_block S0.out.2.1;have h1:Calls Tryz.prog 123 #[pt pH] (x0.setCell ⟨w.heap.size+1,0,none⟩ (.int .i64 (v0:Nat))) _:=numOk v1 8 (u32_r (S0.out.1.turned (Turned.setCell (S:=(· = w.heap.size+1)) (p:=⟨w.heap.size+1,0,none⟩) rfl _) (fun q=>by have:=ORD.out;omega)) (by have:=HC.out;simp only;omega) (by have:=SZ.out;omega)) (by have:=HC.out;omega) HV.out.2.1 rfl)
  |(go_at_call 290;(with_reducible refine (m0 _).mono ?_);rintro e wm ⟨rfl,rfl⟩)
  |(go_at_call 123;(with_reducible refine h1.mono ?_);rintro e x1 ⟨rfl,hr,ht⟩;have S1:Hid (RdIs x1 pH cH (8,0)∧x1.heap[w.heap.size+1]? = some (.cells #[.int .i64 (v0:Nat),.int .i64 0,.int .i64 0,.int .i64 0,.int .u32 0,.slice none 0 0] 123 (0,0))∧Turned (fun b=>b=pH∨b=w.heap.size+1) w5 x1):=⟨hr,(ht.block _ (lt_of_block (Go.Mine.heap_setCell_same S0.out.2.1 _)) (fun q=>by have:=ORD.out;omega)).trans (Go.Mine.heap_setCell_same S0.out.2.1 _),(S0.out.2.2.set (p:=⟨w.heap.size+1,0,none⟩) (.inr rfl) _).trans ht (fun _ _ q=>.inl q)⟩;clear hr ht;have h2:Calls Tryz.prog 125 #[pt pH] x1 _:=numOk v2 9 (u8_r S1.out.1 (by have:=HC.out;simp only;omega) (by have:=SZ.out;omega)) (by have:=HC.out;omega) HV.out.2.2.1 rfl)
  |(go_at_call 290;(with_reducible refine (m1 _).mono ?_);rintro e wm ⟨rfl,rfl⟩)
  |(go_at_call 125;(with_reducible refine h2.mono ?_);rintro e x2 ⟨rfl,hr,ht⟩;have S2:Hid (RdIs x2 pH cH (9,0)∧x2.heap[w.heap.size+1]? = some (.cells #[.int .i64 (v0:Nat),.int .i64 0,.int .i64 0,.int .i64 0,.int .u32 0,.slice none 0 0] 123 (0,0))∧Turned (fun b=>b=pH∨b=w.heap.size+1) w5 x2):=⟨hr,(ht.block _ (lt_of_block S1.out.2.1) (fun q=>by have:=ORD.out;omega)).trans S1.out.2.1,S1.out.2.2.trans ht (fun _ _ q=>.inl q)⟩;clear hr ht;have f2:=free_of S2.out.2.1 1;have c2:=cell_of S2.out.2.1 1 _ rfl;have y2:=lt_of_block S2.out.2.1;have h3:Calls Tryz.prog 125 #[pt pH] (x2.setCell ⟨w.heap.size+1,1,none⟩ (.int .i64 (v2:Nat))) _:=numOk v3 10 (u8_r (S2.out.1.turned (Turned.setCell (S:=(· = w.heap.size+1)) (p:=⟨w.heap.size+1,1,none⟩) rfl _) (fun q=>by have:=ORD.out;omega)) (by have:=HC.out;simp only;omega) (by have:=SZ.out;omega)) (by have:=HC.out;omega) HV.out.2.2.2.1 rfl)
  |(go_at_call 291;(with_reducible refine (m2 _).mono ?_);rintro e wm ⟨rfl,rfl⟩)
  |(go_at_call 125;(with_reducible refine h3.mono ?_);rintro e x3 ⟨rfl,hr,ht⟩;have S3:Hid (RdIs x3 pH cH (10,0)∧x3.heap[w.heap.size+1]? = some (.cells #[.int .i64 (v0:Nat),.int .i64 (v2:Nat),.int .i64 0,.int .i64 0,.int .u32 0,.slice none 0 0] 123 (0,0))∧Turned (fun b=>b=pH∨b=w.heap.size+1) w5 x3):=⟨hr,(ht.block _ (lt_of_block (Go.Mine.heap_setCell_same S2.out.2.1 _)) (fun q=>by have:=ORD.out;omega)).trans (Go.Mine.heap_setCell_same S2.out.2.1 _),(S2.out.2.2.set (p:=⟨w.heap.size+1,1,none⟩) (.inr rfl) _).trans ht (fun _ _ q=>.inl q)⟩;clear hr ht;have f3:=free_of S3.out.2.1 2;have c3:=cell_of S3.out.2.1 2 _ rfl;have y3:=lt_of_block S3.out.2.1;have h4:Calls Tryz.prog 293 #[pt pH] (x3.setCell ⟨w.heap.size+1,2,none⟩ (.int .i64 (v3:Nat))) _:=numOk v4 12 (u16_r (S3.out.1.turned (Turned.setCell (S:=(· = w.heap.size+1)) (p:=⟨w.heap.size+1,2,none⟩) rfl _) (fun q=>by have:=ORD.out;omega)) (by have:=HC.out;simp only;omega) (by have:=SZ.out;omega)) (by have:=HC.out;omega) HV.out.2.2.2.2.1 rfl)
  |(go_at_call 291;(with_reducible refine (m3 _).mono ?_);rintro e wm ⟨rfl,rfl⟩)
  |(go_at_call 293;(with_reducible refine h4.mono ?_);rintro e x4 ⟨rfl,hr,ht⟩;have S4:Hid (RdIs x4 pH cH (12,0)∧x4.heap[w.heap.size+1]? = some (.cells #[.int .i64 (v0:Nat),.int .i64 (v2:Nat),.int .i64 (v3:Nat),.int .i64 0,.int .u32 0,.slice none 0 0] 123 (0,0))∧Turned (fun b=>b=pH∨b=w.heap.size+1) w5 x4):=⟨hr,(ht.block _ (lt_of_block (Go.Mine.heap_setCell_same S3.out.2.1 _)) (fun q=>by have:=ORD.out;omega)).trans (Go.Mine.heap_setCell_same S3.out.2.1 _),(S3.out.2.2.set (p:=⟨w.heap.size+1,2,none⟩) (.inr rfl) _).trans ht (fun _ _ q=>.inl q)⟩;clear hr ht;have f4:=free_of S4.out.2.1 3;have c4:=cell_of S4.out.2.1 3 _ rfl;have y4:=lt_of_block S4.out.2.1;have h5:Calls Tryz.prog 123 #[pt pH] (x4.setCell ⟨w.heap.size+1,3,none⟩ (.int .i64 (v4:Nat))) _:=numOk v5 16 (u32_r (S4.out.1.turned (Turned.setCell (S:=(· = w.heap.size+1)) (p:=⟨w.heap.size+1,3,none⟩) rfl _) (fun q=>by have:=ORD.out;omega)) (by have:=HC.out;simp only;omega) (by have:=SZ.out;omega)) (by have:=HC.out;omega) HV.out.2.2.2.2.2 rfl)
  |(go_at_call 292;(with_reducible refine (m4 _).mono ?_);rintro e wm ⟨rfl,rfl⟩)
  |(go_at_call 123;(with_reducible refine h5.mono ?_);rintro e x5 ⟨rfl,hr,ht⟩;have S5:Hid (RdIs x5 pH cH (16,0)∧x5.heap[w.heap.size+1]? = some (.cells #[.int .i64 (v0:Nat),.int .i64 (v2:Nat),.int .i64 (v3:Nat),.int .i64 (v4:Nat),.int .u32 0,.slice none 0 0] 123 (0,0))∧Turned (fun b=>b=pH∨b=w.heap.size+1) w5 x5):=⟨hr,(ht.block _ (lt_of_block (Go.Mine.heap_setCell_same S4.out.2.1 _)) (fun q=>by have:=ORD.out;omega)).trans (Go.Mine.heap_setCell_same S4.out.2.1 _),(S4.out.2.2.set (p:=⟨w.heap.size+1,3,none⟩) (.inr rfl) _).trans ht (fun _ _ q=>.inl q)⟩;clear hr ht;have f5:=free_of S5.out.2.1 4;have c5:=cell_of S5.out.2.1 4 _ rfl;have y5:=lt_of_block S5.out.2.1)
  |(go_at_call 290;(with_reducible refine (m5 _).mono ?_);rintro e wm ⟨rfl,rfl⟩))
 have HS:Hid (RdgRel w cA cE cN cB pA pN pB v1 o2 (.int .i64 (v0:Nat)) (.int .i64 (v2:Nat)) (.int .i64 (v3:Nat)) (.int .i64 (v4:Nat)) (.int .u32 (v5:Nat)) v1 (.int .i64 0) (.int .u32 0) (x5.setCell ⟨w.heap.size+1,4,none⟩ (.int .u32 (v5:Nat)))):=by
  have tt:=S5.out.2.2.set (p:=⟨w.heap.size+1,4,none⟩) (.inr rfl) (.int .u32 (v5:Nat))
  have hb:=B5.out
  have od:=ORD.out
  have sz:=hb.2.2.2.2.2.2.size
  have nn:∀ b,b≠pH→b≠w.heap.size+1→¬ (b=pH∨b=w.heap.size+1):=fun b h1 h2 h3=>h3.elim h1 h2
  exact ⟨0,0,[],.slice none 0 0,fun _=>False,fun _=>False,⟨Nat.zero_add _,rfl,rfl,rfl⟩,⟨Nat.zero_le _,Nat.zero_le _,Nat.zero_le _⟩,HO2.out,(tt.block _ (lt_of_block hb.2.2.2.2.1) (nn _ (by omega) (by omega))).trans hb.2.2.2.2.1,Go.Mine.heap_setCell_same S5.out.2.1 _,
   hb.2.1.turned tt (nn _ (by omega) (by omega)),hb.2.2.1.turned tt (nn _ (by omega) (by omega)),hb.2.2.2.1.turned tt (nn _ (by omega) (by omega)),⟨[],rfl,Sl.nil _ _ _ _,fun i r u hr=>by simp at hr⟩,fun b q=>q.elim (fun q=>q.elim) (fun q=>q.elim),fun b q=>q.elim,
   hb.2.2.2.2.2.2.comp tt fun b hb q=>q.elim id fun q=>by omega⟩
 have HM:Hid (v0<4294967296∧v2<256∧v3<256∧v4<65536∧v5<4294967296):=⟨b0,b2,b3,b4,b5⟩
 clear b0 b2 b3 b4 b5 m0 m1 m2 m3 m4 m5 S0 S1 S2 S3 S4 S5 f0 f2 f3 f4 f5 c0 c2 c3 c4 c5 y0 y2 y3 y4 y5
 generalize (x5.setCell ⟨w.heap.size+1,4,none⟩ (.int .u32 (v5:Nat)))=wS at *
 go_loopg [11,71] v1 (fun g la i wr=>RdgRel w cA cE cN cB pA pN pB v1 o2 (.int .i64 (v0:Nat)) (.int .i64 (v2:Nat)) (.int .i64 (v3:Nat)) (.int .i64 (v4:Nat)) (.int .u32 (v5:Nat)) g la i wr)
 case atStart=>exact HS.out
 case round=>
  obtain ⟨j,la,l,rv,R,Q,⟨hjg,rfl,rfl,hlj⟩,⟨hla,hjA,hjN⟩,ho2,hb0,hb1,hrA,hrN,hrB,hnew,hRQ,hdis,htr⟩:=hrel
  obtain ⟨vs,hvs,hsl,hlists⟩:=hnew
  rw [hlj]at hsl
  obtain ⟨ra,rc,rfl,-,-⟩:=hsl.value
  have G:Hid (j+gk=v1∧l.length=j):=⟨hjg,hlj⟩
  have LA:Hid (la≤cB.size∧15 * j≤cA.size∧4 * j≤cN.size):=⟨hla,hjA,hjN⟩
  have BB:Hid (wr.heap[w.heap.size]? = some (.cells #[.int .i64 0,.int .i64 0,.int .i64 0,.int .i64 0,.int .u32 0,.slice none 0 0] 123 (0,0))∧wr.heap[w.heap.size+1]? = some (.cells #[.int .i64 (v0:Nat),.int .i64 (v2:Nat),.int .i64 (v3:Nat),.int .i64 (v4:Nat),.int .u32 (v5:Nat),.slice ra j rc] 123 (0,0))):=⟨hb0,hb1⟩
  have RD:Hid (RdIs wr pA cA (15 * j,0)∧RdIs wr pN cN (4 * j,0)∧RdIs wr pB cB (la,0)):=⟨hrA,hrN,hrB⟩
  have SL:Hid (vs.length=l.length∧Sl wr R 48 5 (.slice ra j rc) (rowCs l vs) j∧∀ (i:Nat) (r:Rw) (u:Value),l[i]? = some r→vs[i]? = some u→Sl wr Q 3 1 u (ncells r.par) r.par.length):=⟨hvs,hsl,hlists⟩
  have RQ:Hid ((∀ b,R b∨Q b→w.heap.size+2≤b∧b<wr.heap.size∧b≠pA∧b≠pN∧b≠pB)∧(∀ b,R b→¬ Q b)):=⟨hRQ,hdis⟩
  have TR:Hid (Turned (fun _=>False) w wr):=htr
  have hsw:=htr.size
  have hlA:=lt_of_block hrA
  have hlN:=lt_of_block hrN
  have hlB:=lt_of_block hrB
  have hl1:=lt_of_block hb1
  have LT:Hid (w.heap.size+2≤wr.heap.size∧pA<wr.heap.size∧pN<wr.heap.size∧pB<wr.heap.size∧w.heap.size+2≤pA∧pA<pN∧pN<pB):=(by have:=ORD.out;omega:w.heap.size+2≤wr.heap.size∧pA<wr.heap.size∧pN<wr.heap.size∧pB<wr.heap.size∧w.heap.size+2≤pA∧pA<pN∧pN<pB)
  clear hvs hsl hlists hRQ hdis htr hrA hrN hrB hb0 hb1 hsw hlA hlN hlB hl1 hla hjA hjN HS hjg hlj
  by_cases hg:gk=0
  ·have hjv : decide ((j : Int) < (v1 : Int)) = false := decide_eq_false (by have := G.out; omega)
   have hjvn:decide (j<v1)=false:=decide_eq_false (by have:=G.out;omega)
   have HO3:Hid (o2=l):=by rw [hg,progRows]at ho2;exact (Option.some.inj ho2).symm
   have d0:=cell_of BB.out.2 0 _ rfl
   have d1:=cell_of BB.out.2 1 _ rfl
   have d2:=cell_of BB.out.2 2 _ rfl
   have d3:=cell_of BB.out.2 3 _ rfl
   have d4:=cell_of BB.out.2 4 _ rfl
   have d5:=cell_of BB.out.2 5 _ rfl
   have q0:=cell_of BB.out.1 0 _ rfl
   have q1:=cell_of BB.out.1 1 _ rfl
   have q2:=cell_of BB.out.1 2 _ rfl
   have q3:=cell_of BB.out.1 3 _ rfl
   have q4:=cell_of BB.out.1 4 _ rfl
   have q5:=cell_of BB.out.1 5 _ rfl
   have g0:=free_of BB.out.1 0
   have g1:=free_of BB.out.1 1
   have g2:=free_of BB.out.1 2
   have g3:=free_of BB.out.1 3
   have g4:=free_of BB.out.1 4
   have g5:=free_of BB.out.1 5
   have hl0:=lt_of_block BB.out.1
   have hl1:=lt_of_block BB.out.2
   clear ho2 hg
   go_wp2
   have TE:Turned (· = w.heap.size) wr ((((((wr.setCell ⟨w.heap.size,0,none⟩ (.int .i64 (v0:Nat))).setCell ⟨w.heap.size,1,none⟩ (.int .i64 (v2:Nat))).setCell ⟨w.heap.size,2,none⟩ (.int .i64 (v3:Nat))).setCell ⟨w.heap.size,3,none⟩ (.int .i64 (v4:Nat))).setCell ⟨w.heap.size,4,none⟩ (.int .u32 (v5:Nat))).setCell ⟨w.heap.size,5,none⟩ (.slice ra j rc)):=(((((((Turned.refl (· = w.heap.size) wr).set (p:=⟨w.heap.size,0,none⟩) rfl _).set (p:=⟨w.heap.size,1,none⟩) rfl _).set (p:=⟨w.heap.size,2,none⟩) rfl _).set (p:=⟨w.heap.size,3,none⟩) rfl _).set (p:=⟨w.heap.size,4,none⟩) rfl _).set (p:=⟨w.heap.size,5,none⟩) rfl _)
   refine bodyPost_ret (v:=.agg #[.int .i64 (v0:Nat),.int .i64 (v2:Nat),.int .i64 (v3:Nat),.int .i64 (v4:Nat),.int .u32 (v5:Nat),.slice ra j rc]) (by simp [results,Tryz.results217,go_sem,q0,q1,q2,q3,q4,q5]) rfl ?_
   have eG:=HR.out
   rw [HO3.out]at eG
   rw [eG]
   refine ⟨TR.out.comp TE fun b hb q=>q.elim id fun q=>by omega,ra,rc,by show _=Ending.returned (grv ra rc ⟨v0,v2,v3,v4,v5,l⟩);unfold grv;rw [G.out.2],vs,SL.out.1,?_,fun i r u hr hu=>?_⟩
   ·show Sl _ _ 48 5 (.slice ra l.length rc) (rowCs l vs) l.length
    rw [G.out.2]
    exact (SL.out.2.1.turned TE fun b q z=>by have:=RQ.out.1 b (.inl q);omega).widen fun b q=>by have:=RQ.out.1 b (.inl q);omega
   ·exact ((SL.out.2.2 i r u hr hu).turned TE fun b q z=>by have:=RQ.out.1 b (.inr q);omega).widen fun b q=>by have:=RQ.out.1 b (.inr q);omega
  ·have hjv : decide ((j : Int) < (v1 : Int)) = true := decide_eq_true (by have := G.out; omega)
   have hjvn:decide (j<v1)=true:=decide_eq_true (by have:=G.out;omega)
   obtain ⟨g2,rfl⟩:∃ g2,gk=g2+1:=⟨gk - 1,by omega⟩
   rw [progRows]at ho2
   cases hpr:progRow cA cE cN cB j la with
   |none=>rw [hpr]at ho2;cases ho2
   |some rn=>
   obtain ⟨rr,nx⟩:=rn
   rw [hpr]at ho2
   obtain ⟨e5,e6,e7,e8,hnx,par,hpp,rfl⟩:=progRow_parts hpr
   simp only at ho2
   obtain ⟨u0,hu0⟩:∃ u,u=fld cA (15 * j) 4:=⟨_,rfl⟩
   obtain ⟨u1,hu1⟩:∃ u,u=fld cA (15 * j+4) 4:=⟨_,rfl⟩
   obtain ⟨u2,hu2⟩:∃ u,u=fld cA (15 * j+8) 4:=⟨_,rfl⟩
   obtain ⟨u4,hu4⟩:∃ u,u=fld cA (15 * j+12) 2:=⟨_,rfl⟩
   obtain ⟨u5,hu5⟩:∃ u,u=fld cA (15 * j+14) 1:=⟨_,rfl⟩
   have HU:Hid (u0=fld cA (15 * j) 4∧u1=fld cA (15 * j+4) 4∧u2=fld cA (15 * j+8) 4∧u4=fld cA (15 * j+12) 2∧u5=fld cA (15 * j+14) 1∧nx=fld cN (4 * j) 4):=⟨hu0,hu1,hu2,hu4,hu5,hnx⟩
   have hp0:=hpp
   rw [←hu1,←hu2]at hpp
   obtain ⟨np,hnp⟩:∃ n,n=par.length:=⟨_,rfl⟩
   have HNP:Hid (np=par.length):=hnp
   have hP:∀ W,Calls Tryz.prog 294 #[.int .u32 (u1:Nat),.int .u32 (u2:Nat),.string cE] W fun e w'=>∃ pa pc,e = .returned (.slice pa np pc)∧Sl w' (fun b=>W.heap.size≤b) 3 1 (.slice pa np pc) (ncells par) np∧Turned (fun _=>False) W w':=fun W=>by
    rw [hnp,hu1,hu2]
    exact HP0.out j par W e5 hp0
   clear hp0
   have HC:Hid (15 * j+15≤cA.size):=(by omega:15 * j+15≤cA.size)
   have HC2:Hid (4 * j+4≤cN.size):=(by omega:4 * j+4≤cN.size)
   have bnx:nx<4294967296:=by rw [hnx];exact fld_lt cN _ 4 (by omega)
   have m6:=fun W=>must32_ok nx W
   have bla:la≤4194304:=by have h1:=LA.out;have h2:=SZ.out;omega
   obtain ⟨dd,hdd⟩:∃ d,d=nx - la:=⟨_,rfl⟩
   have hdd2:(nx:Int) - (la:Int)=(dd:Int):=by omega
   have HDD:Hid (la+dd=nx∧nx≤cB.size):=(by omega:la+dd=nx∧nx≤cB.size)
   obtain ⟨bt,hbt⟩:∃ b,b=cB.extract la nx:=⟨_,rfl⟩
   have HBT:Hid (bt=cB.extract la (la+dd)):=(by rw [HDD.out.1];exact hbt:bt=cB.extract la (la+dd))
   rw [←hu0,←hu4,←hu5,←hbt]at ho2
   have HO4:Hid (progRows cA cE cN cB g2 (j+1) nx (l ++ [⟨par,u0,u4,u5,bt⟩])=some o2):=ho2
   have m7:=fun W=>mustS_ok bt W
   have M1:Hid (j+1≤maxLen∧(j+1) * 64≤140737488355328):=(by have h1:=HC.out;have h2:=SZ.out;simp only [maxLen];omega:j+1≤maxLen∧(j+1) * 64≤140737488355328)
   have JJ:Hid (j+1<4294967296):=(by have h1:=HC.out;have h2:=SZ.out;omega:j+1<4294967296)
   have hne1:w.heap.size+1≠wr.heap.size:=by have:=LT.out;omega
   have bu0:u0<4294967296:=by rw [hu0];exact fld_lt cA (15 * j) 4 (by omega)
   have m0:=fun W=>must32_ok u0 W
   have bu1:u1<4294967296:=by rw [hu1];exact fld_lt cA (15 * j+4) 4 (by omega)
   have m1:=fun W=>must32_ok u1 W
   have bu2:u2<4294967296:=by rw [hu2];exact fld_lt cA (15 * j+8) 4 (by omega)
   have m2:=fun W=>must32_ok u2 W
   have bu4:u4<65536:=by rw [hu4];exact fld_lt cA (15 * j+12) 2 (by omega)
   have m4:=fun W=>must16_ok u4 W
   have bu5:u5<256:=by rw [hu5];exact fld_lt cA (15 * j+14) 1 (by omega)
   have m5:=fun W=>must8_ok u5 W
   clear e5 hpp hnp e6 e7 e8 hdd hbt hu0 hu1 hu2 hu4 hu5 hnx ho2 hpr hg
   have h0:Calls Tryz.prog 123 #[pt pA] (wr.alloc (.cells #[.slice none 0 0,.int .i64 0,.int .i64 0,.int .i64 0,.string ⟨#[]⟩] 48)) _:=numOk u0 (15 * j+4) (u32_r (RD.out.1.turned (Turned.alloc (fun _=>False) wr _) id) (by have:=HC.out;simp only;omega) (by have:=SZ.out;omega)) (by have:=HC.out;omega) HU.out.1 (by omega)
   go_wp2_with (first
    |(go_at_call 123;(with_reducible refine h0.mono ?_);rintro e x0 ⟨rfl,hr,ht⟩;have S0:Hid (RdIs x0 pA cA (15 * j+4,0)∧x0.heap[wr.heap.size]? = some (.cells #[.slice none 0 0,.int .i64 0,.int .i64 0,.int .i64 0,.string ⟨#[]⟩] 48 (0,0))∧Turned (fun b=>b=pA∨b=wr.heap.size) wr x0):=⟨hr,(ht.block _ (lt_of_block (heap_alloc_last wr _)) (fun q=>by have:=LT.out;omega)).trans (heap_alloc_last wr _),(Turned.alloc (fun b=>b=pA∨b=wr.heap.size) wr _).trans ht (fun _ _ q=>.inl q)⟩;clear hr ht;have f0:=free_of S0.out.2.1 1;have q0:=cell_of S0.out.2.1 1 _ rfl;have y0:=lt_of_block S0.out.2.1;have h1:Calls Tryz.prog 123 #[pt pA] (x0.setCell ⟨wr.heap.size,1,none⟩ (.int .i64 (u0:Nat))) _:=numOk u1 (15 * j+8) (u32_r (S0.out.1.turned (Turned.setCell (S:=(· = wr.heap.size)) (p:=⟨wr.heap.size,1,none⟩) rfl _) (fun q=>by have:=LT.out;omega)) (by have:=HC.out;simp only;omega) (by have:=SZ.out;omega)) (by have:=HC.out;omega) HU.out.2.1 (by omega))
    |(go_at_call 290;(with_reducible refine (m0 _).mono ?_);rintro e wm ⟨rfl,rfl⟩)
    |(go_at_call 123;(with_reducible refine h1.mono ?_);rintro e x1 ⟨rfl,hr,ht⟩;have S1:Hid (RdIs x1 pA cA (15 * j+8,0)∧x1.heap[wr.heap.size]? = some (.cells #[.slice none 0 0,.int .i64 (u0:Nat),.int .i64 0,.int .i64 0,.string ⟨#[]⟩] 48 (0,0))∧Turned (fun b=>b=pA∨b=wr.heap.size) wr x1):=⟨hr,(ht.block _ (lt_of_block (Go.Mine.heap_setCell_same S0.out.2.1 _)) (fun q=>by have:=LT.out;omega)).trans (Go.Mine.heap_setCell_same S0.out.2.1 _),(S0.out.2.2.set (p:=⟨wr.heap.size,1,none⟩) (.inr rfl) _).trans ht (fun _ _ q=>.inl q)⟩;clear hr ht;have h2:Calls Tryz.prog 123 #[pt pA] x1 _:=numOk u2 (15 * j+12) (u32_r S1.out.1 (by have:=HC.out;simp only;omega) (by have:=SZ.out;omega)) (by have:=HC.out;omega) HU.out.2.2.1 (by omega))
    |(go_at_call 290;(with_reducible refine (m1 _).mono ?_);rintro e wm ⟨rfl,rfl⟩)
    |(go_at_call 123;(with_reducible refine h2.mono ?_);rintro e x2 ⟨rfl,hr,ht⟩;have S2:Hid (RdIs x2 pA cA (15 * j+12,0)∧x2.heap[wr.heap.size]? = some (.cells #[.slice none 0 0,.int .i64 (u0:Nat),.int .i64 0,.int .i64 0,.string ⟨#[]⟩] 48 (0,0))∧Turned (fun b=>b=pA∨b=wr.heap.size) wr x2):=⟨hr,(ht.block _ (lt_of_block S1.out.2.1) (fun q=>by have:=LT.out;omega)).trans S1.out.2.1,S1.out.2.2.trans ht (fun _ _ q=>.inl q)⟩;clear hr ht)
    |(go_at_call 290;(with_reducible refine (m2 _).mono ?_);rintro e wm ⟨rfl,rfl⟩)
    |(go_at_call 294;(with_reducible refine (hP _).mono ?_);rintro e x3 ⟨pa,pc,rfl,hs3,ht⟩;have S3:Hid (RdIs x3 pA cA (15 * j+12,0)∧x3.heap[wr.heap.size]? = some (.cells #[.slice none 0 0,.int .i64 (u0:Nat),.int .i64 0,.int .i64 0,.string ⟨#[]⟩] 48 (0,0))∧Turned (fun b=>b=pA∨b=wr.heap.size) wr x3∧Sl x3 (fun b=>wr.heap.size+1≤b∧b<x3.heap.size) 3 1 (.slice pa np pc) (ncells par) np):=⟨S2.out.1.turned ht id,(ht.block _ (lt_of_block S2.out.2.1) id).trans S2.out.2.1,S2.out.2.2.trans ht (fun _ _ q=>q.elim),(sl_bound hs3).widen fun b q=>⟨by have h1:=lt_of_block S2.out.2.1;have h2:=q.1;omega,q.2⟩⟩;clear hs3 ht;have f3:=free_of S3.out.2.1 0;have q3:=cell_of S3.out.2.1 0 _ rfl;have y3:=lt_of_block S3.out.2.1;have h4:Calls Tryz.prog 293 #[pt pA] (x3.setCell ⟨wr.heap.size,0,none⟩ (.slice pa np pc)) _:=numOk u4 (15 * j+14) (u16_r (S3.out.1.turned (Turned.setCell (S:=(· = wr.heap.size)) (p:=⟨wr.heap.size,0,none⟩) rfl _) (fun q=>by have:=LT.out;omega)) (by have:=HC.out;simp only;omega) (by have:=SZ.out;omega)) (by have:=HC.out;omega) HU.out.2.2.2.1 (by omega))
    |(go_at_call 293;(with_reducible refine h4.mono ?_);rintro e x4 ⟨rfl,hr,ht⟩;have S4:Hid (RdIs x4 pA cA (15 * j+14,0)∧x4.heap[wr.heap.size]? = some (.cells #[.slice pa np pc,.int .i64 (u0:Nat),.int .i64 0,.int .i64 0,.string ⟨#[]⟩] 48 (0,0))∧Turned (fun b=>b=pA∨b=wr.heap.size) wr x4∧Turned (fun b=>b=pA∨b=wr.heap.size) x3 x4):=⟨hr,(ht.block _ (lt_of_block (Go.Mine.heap_setCell_same S3.out.2.1 _)) (fun q=>by have:=LT.out;omega)).trans (Go.Mine.heap_setCell_same S3.out.2.1 _),(S3.out.2.2.1.set (p:=⟨wr.heap.size,0,none⟩) (.inr rfl) _).trans ht (fun _ _ q=>.inl q),((Turned.refl (fun b=>b=pA∨b=wr.heap.size) x3).set (p:=⟨wr.heap.size,0,none⟩) (.inr rfl) _).trans ht (fun _ _ q=>.inl q)⟩;clear hr ht;have f4:=free_of S4.out.2.1 2;have q4:=cell_of S4.out.2.1 2 _ rfl;have y4:=lt_of_block S4.out.2.1;have h5:Calls Tryz.prog 125 #[pt pA] (x4.setCell ⟨wr.heap.size,2,none⟩ (.int .i64 (u4:Nat))) _:=numOk u5 (15 * j+15) (u8_r (S4.out.1.turned (Turned.setCell (S:=(· = wr.heap.size)) (p:=⟨wr.heap.size,2,none⟩) rfl _) (fun q=>by have:=LT.out;omega)) (by have:=HC.out;simp only;omega) (by have:=SZ.out;omega)) (by have:=HC.out;omega) HU.out.2.2.2.2.1 (by omega))
    |(go_at_call 292;(with_reducible refine (m4 _).mono ?_);rintro e wm ⟨rfl,rfl⟩)
    |(go_at_call 125;(with_reducible refine h5.mono ?_);rintro e x5 ⟨rfl,hr,ht⟩;have S5:Hid (RdIs x5 pA cA (15 * j+15,0)∧x5.heap[wr.heap.size]? = some (.cells #[.slice pa np pc,.int .i64 (u0:Nat),.int .i64 (u4:Nat),.int .i64 0,.string ⟨#[]⟩] 48 (0,0))∧Turned (fun b=>b=pA∨b=wr.heap.size) wr x5∧Turned (fun b=>b=pA∨b=wr.heap.size) x3 x5):=⟨hr,(ht.block _ (lt_of_block (Go.Mine.heap_setCell_same S4.out.2.1 _)) (fun q=>by have:=LT.out;omega)).trans (Go.Mine.heap_setCell_same S4.out.2.1 _),(S4.out.2.2.1.set (p:=⟨wr.heap.size,2,none⟩) (.inr rfl) _).trans ht (fun _ _ q=>.inl q),(S4.out.2.2.2.set (p:=⟨wr.heap.size,2,none⟩) (.inr rfl) _).trans ht (fun _ _ q=>.inl q)⟩;clear hr ht;have f5:=free_of S5.out.2.1 3;have q5:=cell_of S5.out.2.1 3 _ rfl;have y5:=lt_of_block S5.out.2.1;have h6:Calls Tryz.prog 123 #[pt pN] (x5.setCell ⟨wr.heap.size,3,none⟩ (.int .i64 (u5:Nat))) _:=numOk nx (4 * j+4) (u32_r (RD.out.2.1.turned (S5.out.2.2.1.set (p:=⟨wr.heap.size,3,none⟩) (.inr rfl) _) (fun q=>by have:=LT.out;omega)) (by have:=LA.out;simp only;omega) (by have:=SZ.out;omega)) (by have:=HC2.out;omega) HU.out.2.2.2.2.2 (by omega))
    |(go_at_call 291;(with_reducible refine (m5 _).mono ?_);rintro e wm ⟨rfl,rfl⟩)
    |(go_at_call 123;(with_reducible refine h6.mono ?_);rintro e x6 ⟨rfl,hr,ht⟩;have S6:Hid ((RdIs x6 pA cA (15 * j+15,0)∧RdIs x6 pN cN (4 * j+4,0))∧x6.heap[wr.heap.size]? = some (.cells #[.slice pa np pc,.int .i64 (u0:Nat),.int .i64 (u4:Nat),.int .i64 (u5:Nat),.string ⟨#[]⟩] 48 (0,0))∧Turned (fun b=>b=pA∨b=pN∨b=wr.heap.size) wr x6∧Turned (fun b=>b=pA∨b=pN∨b=wr.heap.size) x3 x6):=⟨⟨(S5.out.1.turned (Turned.setCell (S:=(· = wr.heap.size)) (p:=⟨wr.heap.size,3,none⟩) rfl _) (fun q=>by have:=LT.out;omega)).turned ht (fun q=>by have:=LT.out;omega),hr⟩,(ht.block _ (lt_of_block (Go.Mine.heap_setCell_same S5.out.2.1 _)) (fun q=>by have:=LT.out;omega)).trans (Go.Mine.heap_setCell_same S5.out.2.1 _),(S5.out.2.2.1.set (p:=⟨wr.heap.size,3,none⟩) (.inr rfl) _).comp ht (fun b hb q=>q.elim (fun q=>q.elim .inl fun q=>.inr (.inr q)) fun q=>.inr (.inl q)),(S5.out.2.2.2.set (p:=⟨wr.heap.size,3,none⟩) (.inr rfl) _).comp ht (fun b hb q=>q.elim (fun q=>q.elim .inl fun q=>.inr (.inr q)) fun q=>.inr (.inl q))⟩;clear hr ht;have h7:Calls Tryz.prog 284 #[pt pB,.int .i64 (dd:Nat)] x6 _:=rawOk dd bt (RD.out.2.2.turned S6.out.2.2.1 (fun q=>by have:=LT.out;omega)) (by have:=HDD.out;omega) (by have:=SZ.out;omega) HBT.out)
    |(go_at_call 290;(with_reducible refine (m6 _).mono ?_);rintro e wm ⟨rfl,rfl⟩)
    |(go_at_call 284;(with_reducible refine h7.mono ?_);rintro e x7 ⟨rfl,hr,ht⟩;have S7:Hid ((RdIs x7 pA cA (15 * j+15,0)∧RdIs x7 pN cN (4 * j+4,0)∧RdIs x7 pB cB (la+dd,0))∧x7.heap[wr.heap.size]? = some (.cells #[.slice pa np pc,.int .i64 (u0:Nat),.int .i64 (u4:Nat),.int .i64 (u5:Nat),.string ⟨#[]⟩] 48 (0,0))∧Turned (fun b=>b=pA∨b=pN∨b=pB∨b=wr.heap.size) wr x7∧Turned (fun b=>b=pA∨b=pN∨b=pB∨b=wr.heap.size) x3 x7∧x7.heap[w.heap.size+1]? = some (.cells #[.int .i64 (v0:Nat),.int .i64 (v2:Nat),.int .i64 (v3:Nat),.int .i64 (v4:Nat),.int .u32 (v5:Nat),.slice ra j rc] 123 (0,0))):=(by have tt:=S6.out.2.2.1.comp ht (T:=(fun b=>b=pA∨b=pN∨b=pB∨b=wr.heap.size)) (fun b hb q=>q.elim (fun q=>q.elim .inl fun q=>q.elim (fun q=>.inr (.inl q)) fun q=>.inr (.inr (.inr q))) fun q=>.inr (.inr (.inl q)));exact ⟨⟨S6.out.1.1.turned ht (fun q=>by have:=LT.out;omega),S6.out.1.2.turned ht (fun q=>by have:=LT.out;omega),hr⟩,(ht.block _ (lt_of_block S6.out.2.1) (fun q=>by have:=LT.out;omega)).trans S6.out.2.1,tt,S6.out.2.2.2.comp ht (fun b hb q=>q.elim (fun q=>q.elim .inl fun q=>q.elim (fun q=>.inr (.inl q)) fun q=>.inr (.inr (.inr q))) fun q=>.inr (.inr (.inl q))),(tt.block _ (lt_of_block BB.out.2) (fun q=>by have:=LT.out;omega)).trans BB.out.2⟩);clear hr ht;have d0:=cell_of S7.out.2.1 0 _ rfl;have d1:=cell_of S7.out.2.1 1 _ rfl;have d2:=cell_of S7.out.2.1 2 _ rfl;have d3:=cell_of S7.out.2.1 3 _ rfl;have d4:=cell_of S7.out.2.1 4 _ rfl;have g4:=free_of S7.out.2.1 4;have y7:=lt_of_block S7.out.2.1;have e5:=cell_of S7.out.2.2.2.2 5 _ rfl;have k5:=free_of S7.out.2.2.2.2 5;have z7:=lt_of_block S7.out.2.2.2.2;have SRC:Hid (Src Tryz.prog 5 121 (.slice (some ⟨x7.heap.size,0,none⟩) 1 1) 1 [.slice pa np pc,.int .i64 (u0:Nat),.int .i64 (u4:Nat),.int .i64 (u5:Nat),.string bt] ((x7.setCell ⟨wr.heap.size,4,none⟩ (.string bt)).alloc (.cells #[.slice pa np pc,.int .i64 (u0:Nat),.int .i64 (u4:Nat),.int .i64 (u5:Nat),.string bt] 48))):=(by have q:=src_row (x7.setCell ⟨wr.heap.size,4,none⟩ (.string bt)) (.slice pa np pc) (u0:Nat) (u4:Nat) (u5:Nat) bt rfl;rw [setCell_size]at q;exact q))
    |(go_at_call 295;(with_reducible refine (m7 _).mono ?_);rintro e wm ⟨rfl,rfl⟩)
    |(at_builtin;refine wpList_append rfl (.tmp 126) (.tmp 128) 121 121 rfl (((SL.out.2.1.turned S7.out.2.2.1 (fun b q z=>by have h1:=RQ.out.1 b (.inl q);omega)).turned (Turned.setCell (S:=(· = wr.heap.size)) (p:=⟨wr.heap.size,4,none⟩) rfl (.string bt)) (fun b q z=>by have h1:=RQ.out.1 b (.inl q);omega)).turned (Turned.alloc (fun _=>False) _ (.cells #[.slice pa np pc,.int .i64 (u0:Nat),.int .i64 (u4:Nat),.int .i64 (u5:Nat),.string bt] 48)) (fun _ _ q=>q)) Tryz.underlying121 info61 rfl (by decide) rfl (.slice (some ⟨x7.heap.size,0,none⟩) 1 1) rfl SRC.out M1.out.1 M1.out.2 ?_;intro w9 x9 q9 t9;obtain ⟨ra9,rc9,rfl,-,-⟩:=q9.value;have A9:Hid (Sl x9 (fun b=>(R b∨x7.heap.size≤b)∧b<x9.heap.size) 48 5 (.slice ra9 (j+1) rc9) (rowCs l vs ++ [.slice pa np pc,.int .i64 (u0:Nat),.int .i64 (u4:Nat),.int .i64 (u5:Nat),.string bt]) (j+1)∧Turned (fun b=>R b∨b=wr.heap.size) x7 x9∧x9.heap[w.heap.size+1]? = some (.cells #[.int .i64 (v0:Nat),.int .i64 (v2:Nat),.int .i64 (v3:Nat),.int .i64 (v4:Nat),.int .u32 (v5:Nat),.slice ra j rc] 123 (0,0))):=(by have tt:=(((Turned.refl (fun b=>R b∨b=wr.heap.size) x7).set (p:=⟨wr.heap.size,4,none⟩) (.inr rfl) (.string bt)).new (.cells #[.slice pa np pc,.int .i64 (u0:Nat),.int .i64 (u4:Nat),.int .i64 (u5:Nat),.string bt] 48)).trans t9 (fun _ _ q=>.inl q);exact ⟨(sl_bound q9).widen fun b q=>⟨q.1.elim .inl fun q=>.inr (by simp at q;omega),q.2⟩,tt,(tt.block _ (lt_of_block S7.out.2.2.2.2) (fun q=>by have h1:=LT.out;have h2:=RQ.out.1 (w.heap.size+1);rcases q with q|q;have h3:=h2 (.inl q);omega;omega)).trans S7.out.2.2.2.2⟩);clear q9 t9;have k9:=free_of A9.out.2.2 5;have c9:=cell_of A9.out.2.2 5 _ rfl;have z9:=lt_of_block A9.out.2.2))
   go_roundg g2
   case measure=>omega
   case rel=>
    have od:=LT.out
    have l3:=lt_of_block S3.out.2.1
    have s37:=S7.out.2.2.2.1.size
    have s79:=A9.out.2.1.size
    have TE7:Turned (fun b=>R b∨b=wr.heap.size∨b=w.heap.size+1) x7 (x9.setCell ⟨w.heap.size+1,5,none⟩ (.slice ra9 (j+1) rc9)):=(A9.out.2.1.mono fun b _ q=>q.elim .inl fun q=>.inr (.inl q)).set (p:=⟨w.heap.size+1,5,none⟩) (.inr (.inr rfl)) _
    have put:∀ b,(b=pA∨b=pN∨b=pB∨b=wr.heap.size)∨(R b∨b=wr.heap.size∨b=w.heap.size+1)→(R b∨b=w.heap.size+1∨b=pA∨b=pN∨b=pB∨b=wr.heap.size):=fun b q=>by
     rcases q with (q|q|q|q)|(q|q|q) <;> first|exact .inl q|exact .inr (.inl q)|exact .inr (.inr (.inl q))|exact .inr (.inr (.inr (.inl q)))|exact .inr (.inr (.inr (.inr (.inl q))))|exact .inr (.inr (.inr (.inr (.inr q))))
    have TE:Turned (fun b=>R b∨b=w.heap.size+1∨b=pA∨b=pN∨b=pB∨b=wr.heap.size) wr (x9.setCell ⟨w.heap.size+1,5,none⟩ (.slice ra9 (j+1) rc9)):=S7.out.2.2.1.comp TE7 fun b _ q=>put b q
    have T3E:Turned (fun b=>R b∨b=w.heap.size+1∨b=pA∨b=pN∨b=pB∨b=wr.heap.size) x3 (x9.setCell ⟨w.heap.size+1,5,none⟩ (.slice ra9 (j+1) rc9)):=S7.out.2.2.2.1.comp TE7 fun b _ q=>put b q
    have nR:∀ b,R b→w.heap.size+2≤b∧b<wr.heap.size∧b≠pA∧b≠pN∧b≠pB:=fun b q=>RQ.out.1 b (.inl q)
    have nQ:∀ b,Q b→w.heap.size+2≤b∧b<wr.heap.size∧b≠pA∧b≠pN∧b≠pB:=fun b q=>RQ.out.1 b (.inr q)
    have nS:∀ b,¬ R b→b≠w.heap.size+1→b≠pA→b≠pN→b≠pB→b≠wr.heap.size→¬ (R b∨b=w.heap.size+1∨b=pA∨b=pN∨b=pB∨b=wr.heap.size):=fun b h1 h2 h3 h4 h5 h6 q=>by
     rcases q with q|q|q|q|q|q
     ·exact h1 q
     ·exact h2 q
     ·exact h3 q
     ·exact h4 q
     ·exact h5 q
     ·exact h6 q
    have n7:∀ b,¬ R b→b≠wr.heap.size→b≠w.heap.size+1→¬ (R b∨b=wr.heap.size∨b=w.heap.size+1):=fun b h1 h2 h3 q=>by
     rcases q with q|q|q
     ·exact h1 q
     ·exact h2 q
     ·exact h3 q
    have hlen:(l ++ [(⟨par,u0,u4,u5,bt⟩:Rw)]).length=j+1:=by rw [List.length_append,G.out.2];rfl
    refine ⟨j+1,nx,l ++ [⟨par,u0,u4,u5,bt⟩],.slice ra9 (j+1) rc9,fun b=>(R b∨x7.heap.size≤b)∧b<x9.heap.size,fun b=>Q b∨(wr.heap.size+1≤b∧b<x3.heap.size),⟨by have:=G.out;omega,?_,rfl,hlen⟩,⟨HDD.out.2,by have:=HC.out;omega,by have:=HC2.out;omega⟩,HO4.out,?_,Go.Mine.heap_setCell_same A9.out.2.2 _,?_,?_,?_,⟨vs ++ [.slice pa np pc],by rw [List.length_append,List.length_append,SL.out.1];rfl,?_,?_⟩,?_,?_,?_⟩
    ·have := JJ.out
     first
      |rfl
      |(congr 1;omega)
      |(simp [IntKind.wrap,IntKind.bits,IntKind.signed] <;> omega)
    ·exact (TE.block _ (lt_of_block BB.out.1) (nS _ (fun q=>by have:=nR _ q;omega) (by omega) (by omega) (by omega) (by omega) (by omega))).trans BB.out.1
    ·have q := S7.out.1.1.turned TE7 (n7 _ (fun q => by have := nR _ q; omega) (by omega) (by omega))
     rw [show 15 * (j+1)=15 * j+15 by omega];exact q
    ·have q := S7.out.1.2.1.turned TE7 (n7 _ (fun q => by have := nR _ q; omega) (by omega) (by omega))
     rw [show 4 * (j+1)=4 * j+4 by omega];exact q
    ·have q := S7.out.1.2.2.turned TE7 (n7 _ (fun q => by have := nR _ q; omega) (by omega) (by omega))
     rw [HDD.out.1]at q;exact q
    ·rw [rowCs_snoc l vs _ _ SL.out.1, hlen]
     exact A9.out.1.turned (Turned.setCell (S:=(· = w.heap.size+1)) (p:=⟨w.heap.size+1,5,none⟩) rfl _) (fun b q z=>by
      rcases q.1 with q1|q1
      ·have:=nR b q1;omega
      ·omega)
    ·intro i r u hr hu
     by_cases hi:i<l.length
     ·rw [List.getElem?_append_left hi] at hr
      rw [List.getElem?_append_left (by rw [SL.out.1];exact hi)]at hu
      exact ((SL.out.2.2 i r u hr hu).turned TE (fun b q=>nS b (fun z=>RQ.out.2 b z q) (by have:=nQ b q;omega) (by have:=nQ b q;omega) (by have:=nQ b q;omega) (by have:=nQ b q;omega) (by have:=nQ b q;omega))).widen fun b q=>.inl q
     ·have hi2 := (List.getElem?_eq_some_iff.1 hr).1
      rw [hlen,←G.out.2]at hi2
      obtain rfl:i=l.length:=by omega
      rw [List.getElem?_append_right (Nat.le_refl _),Nat.sub_self]at hr
      rw [List.getElem?_append_right (by rw [SL.out.1];exact Nat.le_refl _),SL.out.1,Nat.sub_self]at hu
      obtain rfl:=Option.some.inj hr
      obtain rfl:=Option.some.inj hu
      show Sl _ _ 3 1 (.slice pa np pc) (ncells par) par.length
      rw [←HNP.out]
      exact (S3.out.2.2.2.turned T3E (fun b q=>nS b (fun z=>by have:=nR b z;omega) (by omega) (by omega) (by omega) (by omega) (by omega))).widen fun b q=>.inr q
    ·intro b q
     have e9:(x9.setCell ⟨w.heap.size+1,5,none⟩ (.slice ra9 (j+1) rc9)).heap.size=x9.heap.size:=setCell_size _ _ _
     rw [e9]
     rcases q with ⟨q|q,q2⟩|q|q
     ·have:=nR b q;omega
     ·omega
     ·have:=nQ b q;omega
     ·omega
    ·intro b q z
     rcases q with ⟨q|q,q2⟩
     ·rcases z with z | z
      ·exact RQ.out.2 b q z
      ·have:=nR b q;omega
     ·rcases z with z | z
      ·have:=nQ b z;omega
      ·omega
    ·exact TR.out.comp TE fun b hb q=>q.elim id fun q=>by
      rcases q with q|q|q|q|q|q
      ·have:=nR b q;omega
      all_goals omega
end Go.Proofs.YtofcogekgcgjhaaGreatDoor
