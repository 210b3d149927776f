/- Packed. -/
import Derived.Test.YtofcogekgcgjhaaGreatDoorZzaq
import Derived.Test.YtofcogekgcgjhaaGreatDoorZzar
import Derived.Defers
import Derived.Recover
import Derived.Laws.Pointers
set_option linter.unusedVariables false
set_option linter.unusedSimpArgs false
set_option maxRecDepth 100000
namespace Go.Proofs.YtofcogekgcgjhaaGreatDoor
open Go.RowKit Go.Mine
def ParOk (l:List Int):Prop:=(∀ x∈l,I64 x)∧l.length≤17
def RdOk (r:Rw):Prop:=RwOk r∧ParOk r.par
theorem ints_of_sl {w:World} {Q:Nat→Prop} {v:Value} {l:List Int} (h:Sl w Q 3 1 v (ncells l) l.length) (hl:∀ x∈l,I64 x):∃ a c,v = .slice a l.length c∧Ints w Q a c l:=by
 obtain ⟨a,c,hv,h1,h2⟩:=h.value
 refine ⟨a,c,hv,h1,h2,hl,fun hn=>?_⟩
 obtain ⟨g,off,cap,hv2,hg,h3,h4,hc,-,hlt⟩:=h.opens hn
 rw [hv]at hv2
 injection hv2 with e1 e2 e3
 refine ⟨g,off,e1,hg,hlt,fun i x hx=>?_⟩
 have hi:=(List.getElem?_eq_some_iff.1 hx).1
 rw [hc i (by omega)]
 simp [ncells,hx]
theorem rowCs_get:∀ (l:List Rw) (vs:List Value) (i:Nat) (r:Rw) (v:Value),vs.length=l.length→l[i]? = some r→vs[i]? = some v →
  (rowCs l vs)[i * 5]? = some v∧(rowCs l vs)[i * 5+1]? = some (.int .i64 r.tree)∧(rowCs l vs)[i * 5+2]? = some (.int .i64 r.gen)∧(rowCs l vs)[i * 5+3]? = some (.int .i64 r.state)∧(rowCs l vs)[i * 5+4]? = some (.string r.bits)
 | [],_,_,_,_,_,h,_=>by simp at h
 |x :: l,y :: vs,0,r,v,h,h1,h2=>by
  obtain rfl:=Option.some.inj h1
  obtain rfl:=Option.some.inj h2
  simp [rowCs]
 |x :: l,y :: vs,i+1,r,v,h,h1,h2=>by
  have ih:=rowCs_get l vs i r v (by simpa using h) (by simpa using h1) (by simpa using h2)
  have e:∀ k,(rowCs (x :: l) (y :: vs))[(i+1) * 5+k]? = (rowCs l vs)[i * 5+k]? := fun k=>by
   rw [show (i+1) * 5+k=i * 5+k+5 by omega]
   simp [rowCs]
  refine ⟨?_,?_,?_,?_,?_⟩
  ·have:=e 0;rw [Nat.add_zero,Nat.add_zero]at this;rw [this];exact ih.1
  ·rw [e 1];exact ih.2.1
  ·rw [e 2];exact ih.2.2.1
  ·rw [e 3];exact ih.2.2.2.1
  ·rw [e 4];exact ih.2.2.2.2
theorem NewRows.rows {w:World} {S:Nat→Prop} {a:Option Addr} {c:Nat} {l:List Rw} (h:NewRows w S S (.slice a l.length c) l) (hok:∀ r∈l,RdOk r):RwIs w S a c l:=by
 obtain ⟨vs,hvs,hs,hl⟩:=h
 obtain ⟨a2,c2,hv,h1,h2⟩:=hs.value
 injection hv with e1 e2 e3
 subst e1
 subst e3
 refine ⟨h1,h2,fun r hr=>(hok r hr).1,fun hn=>?_⟩
 obtain ⟨g,off,cap,hv2,hg,h3,h4,hc,-,hlt⟩:=hs.opens hn
 injection hv2 with e1 e2 e3
 refine ⟨g,off,e1,hg,hlt,fun i r hr=>?_⟩
 have hi:=(List.getElem?_eq_some_iff.1 hr).1
 obtain ⟨v,hvi⟩:∃ v,vs[i]? = some v:=⟨_,List.getElem?_eq_getElem (by omega)⟩
 obtain ⟨k0,k1,k2,k3,k4⟩:=rowCs_get l vs i r v hvs hr hvi
 obtain ⟨pa,pc,rfl,hints⟩:=ints_of_sl (hl i r v hr hvi) (hok r (List.mem_of_getElem? hr)).2.1
 have at_:∀ k,k<5→w.cell? ⟨g,off+i * 5+k,none⟩=(rowCs l vs)[i * 5+k]? := fun k hk=>by
  rw [←hc (i * 5+k) (by omega),Nat.add_assoc]
 exact ⟨pa,pc,hints,by have:=at_ 0 (by decide);rw [Nat.add_zero,Nat.add_zero]at this;rw [this];exact k0,(at_ 1 (by decide)).trans k1,(at_ 2 (by decide)).trans k2,(at_ 3 (by decide)).trans k3,(at_ 4 (by decide)).trans k4⟩
theorem catch_idle (p q:Nat) (w:World) :
  CallsD Tryz.prog 216 #[pt p,pt q] .returning w fun e u' w'=>e = .returned (.tuple #[])∧u' = .returning∧w'=w:=by
 refine callsD_of_wpS Tryz.func216 rfl fun c₀ cs hu=>?_
 apply wpS_seq
 apply wpS_region
 simp [wpOpsS,go_sem,recoverD,hu,Tryz.ntmps216,Exit.thenS]
 apply wpS_seq
 apply wpS_region
 simp [wpOpsS,go_sem,Exit.thenS]
 refine wpS_cond (t:=false) (by simp [Act.eval,Array.replicate]) ?_
 simp only [Bool.false_eq_true,if_false]
 refine wpS_of_wp (wp_skip ?_)
 cases c₀
 simp_all [bodyPostS,results,Tryz.results216]
theorem six_same (w:World) (p:Nat) (x0 x1 x2 x3 x4 x5 y0 y1 y2 y3 y4 y5:Value) (h:w.heap[p]? = some (.cells #[x0,x1,x2,x3,x4,x5] 123 (0,0))):(((((((w.setCell ⟨p,0,none⟩ (y0)).setCell ⟨p,1,none⟩ (y1)).setCell ⟨p,2,none⟩ (y2)).setCell ⟨p,3,none⟩ (y3)).setCell ⟨p,4,none⟩ (y4)).setCell ⟨p,5,none⟩ (y5))).heap[p]? = some (.cells #[y0,y1,y2,y3,y4,y5] 123 (0,0)):=
 (Go.Mine.heap_setCell_same (Go.Mine.heap_setCell_same (Go.Mine.heap_setCell_same (Go.Mine.heap_setCell_same (Go.Mine.heap_setCell_same (Go.Mine.heap_setCell_same h _) _) _) _) _) _)
theorem six_turned (w:World) (p:Nat) (y0 y1 y2 y3 y4 y5:Value):Turned (· = p) w (((((((w.setCell ⟨p,0,none⟩ (y0)).setCell ⟨p,1,none⟩ (y1)).setCell ⟨p,2,none⟩ (y2)).setCell ⟨p,3,none⟩ (y3)).setCell ⟨p,4,none⟩ (y4)).setCell ⟨p,5,none⟩ (y5))):=
 (((((((Turned.refl (· = p) w).set (p:=⟨p,0,none⟩) rfl _).set (p:=⟨p,1,none⟩) rfl _).set (p:=⟨p,2,none⟩) rfl _).set (p:=⟨p,3,none⟩) rfl _).set (p:=⟨p,4,none⟩) rfl _).set (p:=⟨p,5,none⟩) rfl _)
set_option maxHeartbeats 4000000 in
theorem decode_good (t:ByteArray) (l:List Ch) (L R v4 k:Nat) (s:ByteArray) (v0 v1 v2 v3:Int) (w:World)
  (P1:Hid (∀ W,Calls Tryz.prog 215 #[.string t] W fun e w'=>Turned (fun _=>False) W w'∧∃ a cap,e = .returned (.tuple #[.slice a L cap,.int .i64 0])∧Sl w' (fun b=>W.heap.size≤b) 285 2 (.slice a L cap) (ccells l) L))
  (RR:World→Option Addr→Nat→Nat→Prop)
  (HRT:Hid (∀ (W W' : World) (a:Option Addr) (c B:Nat) (S:Nat→Prop),RR W a c B→Turned S W W'→(∀ b,B≤b→¬ S b)→RR W' a c B))
  (HRD:Hid (∀ W S a cap,Sl W S 285 2 (.slice a L cap) (ccells l) L→Calls Tryz.prog 217 #[.slice a L cap] W fun e w'=>Turned (fun _=>False) W w'∧∃ a2 c2,e = .returned (.agg #[.int .i64 v0,.int .i64 v1,.int .i64 v2,.int .i64 v3,.int .u32 (v4:Nat),.slice a2 R c2])∧RR w' a2 c2 W.heap.size))
  (HEN:Hid (∀ (w2:World) a2 c2 (B p:Nat),RR w2 a2 c2 B→p<B→Calls Tryz.prog 132 #[.agg #[.int .i64 v0,.int .i64 v1,.int .i64 v2,.int .i64 v3,.int .u32 (v4:Nat),.slice a2 R c2]] (((((((w2.setCell ⟨p,0,none⟩ (.int .i64 v0)).setCell ⟨p,1,none⟩ (.int .i64 v1)).setCell ⟨p,2,none⟩ (.int .i64 v2)).setCell ⟨p,3,none⟩ (.int .i64 v3)).setCell ⟨p,4,none⟩ (.int .u32 (v4:Nat))).setCell ⟨p,5,none⟩ (.slice a2 R c2))) fun e w'=>e = .returned (.tuple #[.string s,.int .i64 (k:Nat)])∧Turned (fun _=>False) (((((((w2.setCell ⟨p,0,none⟩ (.int .i64 v0)).setCell ⟨p,1,none⟩ (.int .i64 v1)).setCell ⟨p,2,none⟩ (.int .i64 v2)).setCell ⟨p,3,none⟩ (.int .i64 v3)).setCell ⟨p,4,none⟩ (.int .u32 (v4:Nat))).setCell ⟨p,5,none⟩ (.slice a2 R c2))) w'))
  (hk:k=0) (hst:s=t)
  : Calls Tryz.prog 129 #[.string t] w fun e w'=>Turned (fun _=>False) w w'∧∃ a2 c2 B,w.heap.size≤B∧e = .returned (.tuple #[.agg #[.int .i64 v0,.int .i64 v1,.int .i64 v2,.int .i64 v3,.int .u32 (v4:Nat),.slice a2 R c2],.int .i64 0])∧RR w' a2 c2 B:=by
 have hmf:∀ (fn:Fn) (first cap:Array Value) (w:World),(Instr.makeFunc fn first cap).run Tryz.prog w = .ok (.func fn first cap) w:=fun _ _ _ _=>rfl
 subst hk
 subst hst
 go_enter_defers Tryz.func129,Tryz.ntmps129
 go_wp2_with (first
  |(go_at_call 215;(with_reducible refine (P1.out _).mono ?_);rintro e w1 ⟨ht,a,cap,rfl,hsl⟩;have A1:Hid (w1.heap[w.heap.size]? = some (.cells #[.int .i64 0,.int .i64 0,.int .i64 0,.int .i64 0,.int .u32 0,.slice none 0 0] 123 (0,0))∧w1.heap[w.heap.size+1]? = some (.cells #[.int .i64 0] 27 (0,0))∧Turned (fun _=>False) w w1∧Sl w1 (fun b=>w.heap.size+2≤b) 285 2 (.slice a L cap) (ccells l) L):=⟨(ht.block _ (by simp;omega) id).trans (Go.Mine.heap_alloc_old (heap_alloc_last w _)),(ht.block _ (by simp) id).trans (by simpa using heap_alloc_last (w.alloc _) _),(((Turned.refl (fun _=>False) w).new _).new _).trans ht (fun _ _ q=>q),hsl.widen fun b q=>by simpa using q⟩;clear ht hsl;have d0:=cell_of A1.out.2.1 0 _ rfl;have g0:=free_of A1.out.2.1 0;have l0:=lt_of_block A1.out.1;have l1:=lt_of_block A1.out.2.1;have h69:=HRD.out (w1.setCell ⟨w.heap.size+1,0,none⟩ (.int .i64 0)) _ a cap (A1.out.2.2.2.turned (Turned.setCell (S:=(· = w.heap.size+1)) (p:=⟨w.heap.size+1,0,none⟩) rfl _) (fun b q z=>by omega)))
  |(go_at_call 217;(with_reducible refine h69.mono ?_);rintro e w2 ⟨ht2,a2,c2,rfl,hrw⟩;have ts:Turned (· = w.heap.size+1) w1 (w1.setCell ⟨w.heap.size+1,0,none⟩ (.int .i64 0)):=Turned.setCell (S:=(· = w.heap.size+1)) (p:=⟨w.heap.size+1,0,none⟩) rfl _;have sz:(w1.setCell ⟨w.heap.size+1,0,none⟩ (.int .i64 0)).heap.size=w1.heap.size:=setCell_size _ _ _;have B2:Hid (w2.heap[w.heap.size]? = some (.cells #[.int .i64 0,.int .i64 0,.int .i64 0,.int .i64 0,.int .u32 0,.slice none 0 0] 123 (0,0))∧w2.heap[w.heap.size+1]? = some (.cells #[.int .i64 0] 27 (0,0))∧Turned (fun _=>False) w w2∧w.heap.size+2≤w1.heap.size):=⟨(ht2.block _ (by omega) id).trans ((Go.Mine.heap_setCell_ne _ (by simp)).trans A1.out.1),(ht2.block _ (by omega) id).trans (Go.Mine.heap_setCell_same A1.out.2.1 _),(A1.out.2.2.1.comp ts fun b hb q=>q.elim id fun q=>by omega).trans ht2 fun _ _ q=>q,by omega⟩;have SR:Hid (RR w2 a2 c2 w1.heap.size):=(by rw [sz]at hrw;exact hrw);clear ht2 ts sz h69 d0 g0 hrw;have c0:=cell_of B2.out.1 0 _ rfl;have c1:=cell_of B2.out.1 1 _ rfl;have c2x:=cell_of B2.out.1 2 _ rfl;have c3:=cell_of B2.out.1 3 _ rfl;have c4:=cell_of B2.out.1 4 _ rfl;have c5:=cell_of B2.out.1 5 _ rfl;have f0:=free_of B2.out.1 0;have f1:=free_of B2.out.1 1;have f2:=free_of B2.out.1 2;have f3:=free_of B2.out.1 3;have f4:=free_of B2.out.1 4;have f5:=free_of B2.out.1 5;have d0:=cell_of B2.out.2.1 0 _ rfl;have g0:=free_of B2.out.2.1 0;have l2:=lt_of_block B2.out.1;have l3:=lt_of_block B2.out.2.1;have h24:=HEN.out w2 a2 c2 w1.heap.size w.heap.size SR.out (by have:=B2.out.2.2.2;omega))
  |(go_at_call 132;(with_reducible refine h24.mono ?_);rintro e w3 ⟨rfl,ht3⟩;have B3:Hid (w3.heap[w.heap.size]? = some (.cells #[.int .i64 v0,.int .i64 v1,.int .i64 v2,.int .i64 v3,.int .u32 (v4:Nat),.slice a2 R c2] 123 (0,0))∧w3.heap[w.heap.size+1]? = some (.cells #[.int .i64 0] 27 (0,0))∧Turned (fun _=>False) w w3∧RR w3 a2 c2 w1.heap.size):=(by have t6:=six_turned w2 w.heap.size (.int .i64 v0) (.int .i64 v1) (.int .i64 v2) (.int .i64 v3) (.int .u32 (v4:Nat)) (.slice a2 R c2);have e6:(((((((w2.setCell ⟨w.heap.size,0,none⟩ (.int .i64 v0)).setCell ⟨w.heap.size,1,none⟩ (.int .i64 v1)).setCell ⟨w.heap.size,2,none⟩ (.int .i64 v2)).setCell ⟨w.heap.size,3,none⟩ (.int .i64 v3)).setCell ⟨w.heap.size,4,none⟩ (.int .u32 (v4:Nat))).setCell ⟨w.heap.size,5,none⟩ (.slice a2 R c2))).heap.size=w2.heap.size:=(by simp only [setCell_size]);exact ⟨(ht3.block _ (by rw [e6];exact l2) id).trans (six_same w2 w.heap.size _ _ _ _ _ _ (.int .i64 v0) (.int .i64 v1) (.int .i64 v2) (.int .i64 v3) (.int .u32 (v4:Nat)) (.slice a2 R c2) B2.out.1),(ht3.block _ (by rw [e6];exact l3) id).trans ((t6.block _ l3 (fun z=>by omega)).trans B2.out.2.1),(B2.out.2.2.1.comp t6 fun b hb q=>q.elim id fun q=>by omega).trans ht3 fun _ _ q=>q,HRT.out _ _ _ _ _ _ (HRT.out _ _ _ _ _ _ SR.out t6 (fun b q z=>by have:=B2.out.2.2.2;omega)) ht3 (fun _ _ q=>q)⟩);clear ht3 h24 c0 c1 c2x c3 c4 c5 f0 f1 f2 f3 f4 f5 d0 g0 l2 l3;have y0:=cell_of B3.out.1 0 _ rfl;have f0:=free_of B3.out.1 0;have y1:=cell_of B3.out.1 1 _ rfl;have f1:=free_of B3.out.1 1;have y2:=cell_of B3.out.1 2 _ rfl;have f2:=free_of B3.out.1 2;have y3:=cell_of B3.out.1 3 _ rfl;have f3:=free_of B3.out.1 3;have y4:=cell_of B3.out.1 4 _ rfl;have f4:=free_of B3.out.1 4;have y5:=cell_of B3.out.1 5 _ rfl;have f5:=free_of B3.out.1 5;have d0:=cell_of B3.out.2.1 0 _ rfl;have g0:=free_of B3.out.2.1 0;have l2:=lt_of_block B3.out.1;have l3:=lt_of_block B3.out.2.1))
 have b1:=six_same w3 w.heap.size _ _ _ _ _ _ (.int .i64 v0) (.int .i64 v1) (.int .i64 v2) (.int .i64 v3) (.int .u32 (v4:Nat)) (.slice a2 R c2) B3.out.1
 have t1:=six_turned w3 w.heap.size (.int .i64 v0) (.int .i64 v1) (.int .i64 v2) (.int .i64 v3) (.int .u32 (v4:Nat)) (.slice a2 R c2)
 have b2:=(t1.block _ l3 (fun z=>by omega)).trans B3.out.2.1
 have rr:=HRT.out _ _ _ _ _ _ B3.out.2.2.2 t1 (fun b q z=>by have:=B2.out.2.2.2;omega)
 have tt:=B3.out.2.2.1.comp t1 (T:=fun _=>False) fun b hb q=>q.elim id fun q=>by omega
 clear y0 y1 y2 y3 y4 y5 f0 f1 f2 f3 f4 f5 d0 g0
 revert b1 b2 t1 rr tt
 generalize ((((((w3.setCell ⟨w.heap.size,0,none⟩ (.int .i64 v0)).setCell ⟨w.heap.size,1,none⟩ (.int .i64 v1)).setCell ⟨w.heap.size,2,none⟩ (.int .i64 v2)).setCell ⟨w.heap.size,3,none⟩ (.int .i64 v3)).setCell ⟨w.heap.size,4,none⟩ (.int .u32 (v4:Nat))).setCell ⟨w.heap.size,5,none⟩ (.slice a2 R c2))=w4
 intro b1 t1 b2 rr tt
 have e1:=(Go.Mine.heap_setCell_ne (w:=w4) (a:=⟨w.heap.size+1,0,none⟩) (.int .i64 0) (by simp)).trans b1
 have e2:(w4.setCell ⟨w.heap.size+1,0,none⟩ (.int .i64 0)).heap[w.heap.size+1]? = some (.cells #[.int .i64 0] 27 (0,0)):=Go.Mine.heap_setCell_same b2 _
 have t2:Turned (· = w.heap.size+1) w4 (w4.setCell ⟨w.heap.size+1,0,none⟩ (.int .i64 0)):=Turned.setCell (S:=(· = w.heap.size+1)) (p:=⟨w.heap.size+1,0,none⟩) rfl _
 have rr2:=HRT.out _ _ _ _ _ _ rr t2 (fun b q z=>by have:=B2.out.2.2.2;omega)
 have tt2:=tt.comp t2 (T:=fun _=>False) fun b hb q=>q.elim id fun q=>by omega
 revert e1 e2 t2 rr2 tt2
 generalize w4.setCell ⟨w.heap.size+1,0,none⟩ (.int .i64 0)=w5
 intro e1 e2 t2 rr2 tt2
 refine leaves_cons (f:=216) (args:=#[pt w.heap.size,pt (w.heap.size+1)]) (by simp) (by simp [go_sem]) ?_
 refine (catch_idle w.heap.size (w.heap.size+1) _).mono ?_
 rintro e u' w9 ⟨rfl,rfl,rfl⟩
 have KK:Hid (Turned (fun _=>False) w w9∧RR w9 a2 c2 w1.heap.size):=⟨tt2,rr2⟩
 have HB:Hid (w.heap.size≤w1.heap.size):=(by have:=B2.out.2.2.2;omega:w.heap.size≤w1.heap.size)
 have r0:=cell_of e1 0 _ rfl
 have r1:=cell_of e1 1 _ rfl
 have r2:=cell_of e1 2 _ rfl
 have r3:=cell_of e1 3 _ rfl
 have r4:=cell_of e1 4 _ rfl
 have r5:=cell_of e1 5 _ rfl
 have r6:=cell_of e2 0 _ rfl
 clear e1 e2 t2 rr2 tt2 b1 t1 b2 rr tt
 simp only [List.getElem_toArray,List.getElem_cons_zero,List.getElem_cons_succ]at r0 r1 r2 r3 r4 r5 r6
 simp [Leaves,settle,results,Tryz.results129,go_sem,r0,r1,r2,r3,r4,r5,r6]
 exact ⟨KK.out.1,a2,c2,w1.heap.size,HB.out,⟨rfl,rfl⟩,KK.out.2⟩
theorem NewRows.turned {w w' : World} {R Q S:Nat→Prop} {v:Value} {l:List Rw} (h:NewRows w R Q v l) (ht:Turned S w w') (hR:∀ b,R b→¬ S b) (hQ:∀ b,Q b→¬ S b):NewRows w' R Q v l:=by
 obtain ⟨vs,h1,h2,h3⟩:=h
 exact ⟨vs,h1,h2.turned ht hR,fun i r u hr hu=>(h3 i r u hr hu).turned ht hQ⟩
theorem NewRows.widen {w:World} {R Q R' Q' : Nat→Prop} {v:Value} {l:List Rw} (h:NewRows w R Q v l) (hR:∀ b,R b→R' b) (hQ:∀ b,Q b→Q' b):NewRows w R' Q' v l:=by
 obtain ⟨vs,h1,h2,h3⟩:=h
 exact ⟨vs,h1,h2.widen hR,fun i r u hr hu=>(h3 i r u hr hu).widen hQ⟩
theorem decode_is (t:ByteArray) (l:List Ch) (g:Gr) (w:World) (hs:t.size≤4611686018427387904) (hpr:parseR t = .ok l) (hsm:Small l) (hz:∀ id,(datC l id).size≤4194304) (hg:progR l=some g) (he:encG g = .tuple #[.string t,.int .i64 ((0:Nat):Nat)]) (hok:GrOk g) (hrows:∀ r∈g.rows,RdOk r)
  (HP0:Hid (∀ (j:Nat) (par:List Int) (W:World),15 * j+15≤(datC l 2).size→progPar (fld (datC l 2) (15 * j+4) 4) (fld (datC l 2) (15 * j+8) 4) (datC l 3)=some par→Calls Tryz.prog 294 #[.int .u32 (fld (datC l 2) (15 * j+4) 4:Nat),.int .u32 (fld (datC l 2) (15 * j+8) 4:Nat),.string (datC l 3)] W fun e w'=>∃ pa pc,e = .returned (.slice pa par.length pc)∧Sl w' (fun b=>W.heap.size≤b) 3 1 (.slice pa par.length pc) (ncells par) par.length∧Turned (fun _=>False) W w')) :
  Calls Tryz.prog 129 #[.string t] w fun e w'=>Turned (fun _=>False) w w'∧∃ a2 c2,e = .returned (.tuple #[grv a2 c2 g,.int .i64 0])∧RwIs w' (fun b=>w.heap.size≤b) a2 c2 g.rows:=by
 have P1:Hid (∀ W,Calls Tryz.prog 215 #[.string t] W fun e w'=>Turned (fun _=>False) W w'∧∃ a cap,e = .returned (.tuple #[.slice a l.length cap,.int .i64 0])∧Sl w' (fun b=>W.heap.size≤b) 285 2 (.slice a l.length cap) (ccells l) l.length):=by
  have q:∀ W,Calls Tryz.prog 215 #[.string t] W fun e w'=>Turned (fun _=>False) W w'∧∃ a cap,e = .returned (.tuple #[.slice a l.length cap,.int .i64 0])∧Sl w' (fun b=>W.heap.size≤b) 285 2 (.slice a l.length cap) (ccells l) l.length:=fun W=>by
   have h:=parse_any t W hs
   rw [hpr]at h
   refine h.mono ?_
   rintro e w' ⟨h1,v,rfl,hsl⟩
   obtain ⟨a,cap,rfl,-,-⟩:=hsl.value
   exact ⟨h1,a,cap,rfl,hsl⟩
  exact q
 have HRT:Hid (∀ (W W' : World) (a:Option Addr) (c B:Nat) (S:Nat→Prop),NewRows W (fun b=>B≤b) (fun b=>B≤b) (.slice a g.rows.length c) g.rows→Turned S W W'→(∀ b,B≤b→¬ S b)→NewRows W' (fun b=>B≤b) (fun b=>B≤b) (.slice a g.rows.length c) g.rows):=fun W W' a c B S h1 h2 h3=>h1.turned h2 h3 h3
 have HRD:Hid (∀ (W:World) (S:Nat→Prop) (a:Option Addr) (cap:Nat),Sl W S 285 2 (.slice a l.length cap) (ccells l) l.length→Calls Tryz.prog 217 #[.slice a l.length cap] W fun e w'=>Turned (fun _=>False) W w'∧∃ a2 c2,e = .returned (grv a2 c2 g)∧NewRows w' (fun b=>W.heap.size≤b) (fun b=>W.heap.size≤b) (.slice a2 g.rows.length c2) g.rows):=fun W S a cap h=>by
  obtain ⟨a',cap',hv,hc⟩:=sl_chIs h hsm
  injection hv with e1 _ e3
  subst e1
  subst e3
  exact read_good _ _ l W hc hz g hg HP0
 have HEN:Hid (∀ (w2:World) (a2:Option Addr) (c2 B p:Nat),NewRows w2 (fun b=>B≤b) (fun b=>B≤b) (.slice a2 g.rows.length c2) g.rows→p<B→Calls Tryz.prog 132 #[grv a2 c2 g] (((((((w2.setCell ⟨p,0,none⟩ (.int .i64 g.base)).setCell ⟨p,1,none⟩ (.int .i64 g.h)).setCell ⟨p,2,none⟩ (.int .i64 g.p)).setCell ⟨p,3,none⟩ (.int .i64 g.m)).setCell ⟨p,4,none⟩ (.int .u32 (g.seed:Nat))).setCell ⟨p,5,none⟩ (.slice a2 g.rows.length c2))) fun e w'=>e = .returned (.tuple #[.string t,.int .i64 ((0:Nat):Nat)])∧Turned (fun _=>False) (((((((w2.setCell ⟨p,0,none⟩ (.int .i64 g.base)).setCell ⟨p,1,none⟩ (.int .i64 g.h)).setCell ⟨p,2,none⟩ (.int .i64 g.p)).setCell ⟨p,3,none⟩ (.int .i64 g.m)).setCell ⟨p,4,none⟩ (.int .u32 (g.seed:Nat))).setCell ⟨p,5,none⟩ (.slice a2 g.rows.length c2))) w'):=fun w2 a2 c2 B p h1 h2=>by
  have h3:NewRows (((((((w2.setCell ⟨p,0,none⟩ (.int .i64 g.base)).setCell ⟨p,1,none⟩ (.int .i64 g.h)).setCell ⟨p,2,none⟩ (.int .i64 g.p)).setCell ⟨p,3,none⟩ (.int .i64 g.m)).setCell ⟨p,4,none⟩ (.int .u32 (g.seed:Nat))).setCell ⟨p,5,none⟩ (.slice a2 g.rows.length c2))) (fun b=>B≤b) (fun b=>B≤b) (.slice a2 g.rows.length c2) g.rows:=h1.turned (six_turned w2 p _ _ _ _ _ _) (fun b q z=>by omega) (fun b q z=>by omega)
  have h4:=encode_any _ a2 c2 g _ (h3.rows hrows) hok
  rw [he]at h4
  exact h4
 refine (decode_good t l l.length g.rows.length g.seed 0 t g.base g.h g.p g.m w P1 (fun W a c B=>NewRows W (fun b=>B≤b) (fun b=>B≤b) (.slice a g.rows.length c) g.rows) HRT HRD HEN rfl rfl).mono ?_
 rintro e w' ⟨h1,a2,c2,B,h2,h3,h4⟩
 exact ⟨h1,a2,c2,h3,(h4.widen (fun b q=>Nat.le_trans h2 q) (fun b q=>Nat.le_trans h2 q)).rows hrows⟩
theorem parents_none (E:ByteArray) (w:World):Calls Tryz.prog 294 #[.int .u32 4294967295,.int .u32 4294967295,.string E] w fun e w'=>e = .returned (.slice none 0 0)∧Turned (fun _=>False) w w':=by
 go_enter Tryz.func294,Tryz.ntmps294
 go_wp2
 go_ret
 exact ⟨rfl,Turned.refl _ _⟩
abbrev Nox (B X:Nat) (b:Nat):Prop:=B≤b∧b≠X
theorem more_nox {w:World} {B X:Nat} (hB:B≤w.heap.size) (hX:X<w.heap.size) (b:Nat) (q:More (Nox B X) w b):Nox B X b:=q.elim id fun q=>⟨Nat.le_trans hB q,by omega⟩
theorem raw_nox {B X p:Nat} {bs:List UInt8} (s:ByteArray) (w:World) (h:Wr w (Nox B X) p bs) (hB:B≤w.heap.size) (hX:X<w.heap.size) (hL:bs.length+s.size≤1099511627776) :
  Calls Tryz.prog 149 #[pt p,.string s] w fun e w'=>e = .returned (.tuple #[])∧Wr w' (Nox B X) p (bs ++ s.data.toList)∧Turned (Nox B X) w w':=
 (raw_any s w h hL).mono fun _ _ q=>⟨q.1,q.2.1.widen (more_nox hB hX),q.2.2⟩
theorem u8_nox {B X p:Nat} {bs:List UInt8} (v:Nat) (w:World) (h:Wr w (Nox B X) p bs) (hB:B≤w.heap.size) (hX:X<w.heap.size) (hv:v<256) (hL:bs.length+1≤1099511627776) :
  Calls Tryz.prog 148 #[pt p,.int .u8 v] w fun e w'=>e = .returned (.tuple #[])∧Wr w' (Nox B X) p (bs ++ num v 1)∧Turned (Nox B X) w w':=
 (u8_any v w h hv hL).mono fun _ _ q=>⟨q.1,q.2.1.widen (more_nox hB hX),q.2.2⟩
theorem u32_nox {B X p:Nat} {bs:List UInt8} (v:Nat) (w:World) (h:Wr w (Nox B X) p bs) (hB:B≤w.heap.size) (hX:X<w.heap.size) (hv:v<4294967296) (hL:bs.length+4≤1099511627776) :
  Calls Tryz.prog 150 #[pt p,.int .u32 v] w fun e w'=>e = .returned (.tuple #[])∧Wr w' (Nox B X) p (bs ++ num v 4)∧Turned (Nox B X) w w':=
 (u32_any v w h hv hL).mono fun _ _ q=>⟨q.1,q.2.1.widen (more_nox hB hX),q.2.2⟩
theorem Wr.box {B p:Nat} {bs:List UInt8} {w:World} (h:Wr w (fun b=>B≤b) p bs) (o:Obj):Wr (w.alloc o) (Nox B w.heap.size) p bs:=
 ((wr_bound h).turned (Turned.alloc (fun _=>False) w o) fun _ _ q=>q).widen fun b q=>⟨q.1,by have:=q.2;omega⟩
theorem box_stays {w w' : World} {B:Nat} {o:Obj} (ht:Turned (Nox B w.heap.size) (w.alloc o) w'):w'.heap[w.heap.size]? = some o∧w.heap.size<w'.heap.size:=by
 have hz:(w.alloc o).heap.size=w.heap.size+1:=by simp
 exact ⟨(ht.block _ (by omega) fun q=>q.2 rfl).trans (heap_alloc_new w o),by have:=ht.size;omega⟩
theorem _root_.Go.Mine.Turned.nox {B X:Nat} {w w' w'' : World} (h:Turned (Nox B X) w w') (k:Turned (Nox B X) w' w''):Turned (Nox B X) w w'':=h.trans k fun _ _ q=>q
theorem _root_.Go.Mine.Turned.none {S:Nat→Prop} {w w' : World} (h:Turned (fun _=>False) w w'):Turned S w w':=h.mono fun _ _ q=>q.elim
end Go.Proofs.YtofcogekgcgjhaaGreatDoor
