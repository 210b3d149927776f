/- Packed. -/
import Derived.Test.YtofcogekgcgjhaaGreatDoorZzbh
import Derived.Test.YtofcogekgcgjhaaGreatDoorZzbm
import Derived.Deep.RegionHeld3
set_option linter.unusedVariables false
set_option linter.unusedSimpArgs false
set_option maxRecDepth 100000
namespace Go.Proofs.YtofcogekgcgjhaaGreatDoor
open Go.RowKit Go.Mine Go.Mine.Ac
structure RoAt (V wr:World) (S1 S2 S3:Nat→Prop) (av ov:Value) (all:List Int) (out:List Rw):Prop where
 al:Sl wr S1 3 1 av (ic all) all.length
 ou:RowsAt wr S2 S3 ov out
 b1:∀ b,S1 b→V.heap.size≤b∧b<wr.heap.size
 b2:∀ b,S2 b→V.heap.size≤b∧b<wr.heap.size
 b3:∀ b,S3 b→V.heap.size≤b∧b<wr.heap.size
 d12:∀ b,S1 b→¬ S2 b
 d13:∀ b,S1 b→¬ S3 b
 d23:∀ b,S2 b→¬ S3 b
 tu:Turned (fun b=>V.heap.size≤b) V wr
theorem RoAt.keep {V wr w' : World} {S1 S2 S3:Nat→Prop} {av ov:Value} {all:List Int} {out:List Rw} (h:RoAt V wr S1 S2 S3 av ov all out) (t:Turned (fun b=>wr.heap.size≤b) wr w'):RoAt V w' S1 S2 S3 av ov all out:=by
 have hz:=t.size
 have hv:=h.tu.size
 refine ⟨h.al.turned t fun b hb q=>?_,h.ou.turned t (fun b hb q=>?_) fun b hb q=>?_,fun b hb=>?_,fun b hb=>?_,fun b hb=>?_,h.d12,h.d13,h.d23,h.tu.trans t fun i _ q=>by omega⟩
 ·have:=h.b1 b hb;omega
 ·have:=h.b2 b hb;omega
 ·have:=h.b3 b hb;omega
 ·have:=h.b1 b hb;omega
 ·have:=h.b2 b hb;omega
 ·have:=h.b3 b hb;omega
theorem RoAt.pushAll {V w1 W w2:World} {S1 S2 S3:Nat→Prop} {av ov v' : Value} {all:List Int} {out:List Rw} {x:Int} (h:RoAt V w1 S1 S2 S3 av ov all out) (tW:Turned (fun _=>False) w1 W) (t2:Turned S1 W w2)
  (hs:Sl w2 (More S1 W) 3 1 v' (ic all ++ [.int .i64 x]) (all.length+1)):∃ S1',RoAt V w2 S1' S2 S3 v' ov (all ++ [x]) out∧∀ b,S1' b→S1 b∨W.heap.size≤b:=by
 have hz:=tW.size
 have hz2:=t2.size
 have hv:=h.tu.size
 have t:Turned S1 w1 w2:=tW.comp t2 fun i _ q=>q.elim False.elim id
 have hb:=hs.bound
 refine ⟨fun b=>More S1 W b∧b<w2.heap.size,⟨?_,h.ou.turned t (fun b hb q=>h.d12 b q hb) fun b hb q=>h.d13 b q hb,fun b hb=>?_,fun b hb=>?_,fun b hb=>?_,fun b hb q=>?_,fun b hb q=>?_,h.d23,h.tu.trans t fun i _ q=>(h.b1 i q).1⟩,fun b hb=>hb.1⟩
 ·rw [ic_app,List.length_append];exact hb
 ·rcases hb with ⟨q | q, hl⟩
  ·exact ⟨(h.b1 b q).1,hl⟩
  ·exact ⟨by omega,hl⟩
 ·have:=h.b2 b hb;omega
 ·have:=h.b3 b hb;omega
 ·rcases hb.1 with z | z
  ·exact h.d12 b z q
  ·have:=h.b2 b q;omega
 ·rcases hb.1 with z | z
  ·exact h.d13 b z q
  ·have:=h.b3 b q;omega
theorem RoAt.pushOut {V w1 W w2:World} {S1 S2 S3 P:Nat→Prop} {av ov v' : Value} {all:List Int} {out:List Rw} {r:Rw} {rvs:List Value} {a:Option Addr} {cap:Nat} (h:RoAt V w1 S1 S2 S3 av ov all out)
  (h1 : Sl w1 S2 48 5 ov rvs out.length) (h2 : ∀ r ∈ out, RwOk r) (h3 : ∀ (i : Nat) (r : Rw), out[i]? = some r → ∃ a cap, rvs[i * 5]? = some (.slice a r.par.length cap) ∧ rvs[i * 5 + 1]? = some (.int .i64 r.tree) ∧ rvs[i * 5 + 2]? = some (.int .i64 r.gen) ∧
   rvs[i * 5+3]? = some (.int .i64 r.state)∧rvs[i * 5+4]? = some (.string r.bits)∧Ints w1 S3 a cap r.par)
  (tW:Turned (fun _=>False) w1 W) (t2:Turned S2 W w2) (hr:RwOk r) (hp:Ints w1 P a cap r.par) (hP:∀ b,P b→V.heap.size≤b∧b<w1.heap.size∧¬ S1 b∧¬ S2 b)
  (hs:Sl w2 (More S2 W) 48 5 v' (rvs ++ [.slice a r.par.length cap,.int .i64 r.tree,.int .i64 r.gen,.int .i64 r.state,.string r.bits]) (out.length+1)):∃ S2' S3',RoAt V w2 S1 S2' S3' av v' all (out ++ [r]):=by
 have hz:=tW.size
 have hz2:=t2.size
 have hv:=h.tu.size
 have t:Turned S2 w1 w2:=tW.comp t2 fun i _ q=>q.elim False.elim id
 have hb:=hs.bound
 refine ⟨fun b=>More S2 W b∧b<w2.heap.size,fun b=>S3 b∨P b,h.al.turned t (fun b hb q=>h.d12 b hb q),?_,fun b hb=>?_,fun b hb=>?_,fun b hb=>?_,fun b hb q=>?_,fun b hb q=>?_,fun b hb q=>?_,h.tu.trans t fun i _ q=>(h.b2 i q).1⟩
 ·refine RowsAt.snoc h1.1 h2 (fun i y hy => ?_) hr (hp.turned t (fun b hb => (hP b hb).2.2.2) |>.mono fun b hb => .inr hb) hb
  obtain ⟨a',c',e0,e1,e2,e3,e4,e5⟩:=h3 i y hy
  exact ⟨a',c',e0,e1,e2,e3,e4,(e5.turned t fun b hb q=>h.d23 b q hb).mono fun b hb=>.inl hb⟩
 ·have:=h.b1 b hb;omega
 ·rcases hb with ⟨q | q, hl⟩
  ·exact ⟨(h.b2 b q).1,hl⟩
  ·exact ⟨by omega,hl⟩
 ·rcases hb with q | q
  ·have:=h.b3 b q;omega
  ·have:=hP b q;omega
 ·rcases q.1 with z | z
  ·exact h.d12 b hb z
  ·have:=h.b1 b hb;omega
 ·rcases q with z | z
  ·exact h.d13 b hb z
  ·exact (hP b z).2.2.1 hb
 ·rcases hb.1 with z | z
  ·rcases q with y | y
   ·exact h.d23 b z y
   ·exact (hP b y).2.2.2 z
  ·rcases q with y | y
   ·have:=h.b3 b y;omega
   ·have:=hP b y;omega
def R1Rel (V:World) (s:St) (g:Stg) (K:Nat) (known:List Int) (gk:Nat) (ov av nv:Value) (wr:World):Prop:=
 ∃ (all:List Int) (out:List Rw) (S1 S2 S3:Nat→Prop),all.length+gk=s.commits.length∧nv = .int .i64 (all.length:Nat)∧RoAt V wr S1 S2 S3 av ov all out∧GenOk all∧out ++ rowsX s g gk all=rowsX s g K known∧out.length+gk=K
def upsOf (all:List Int) (c:Cm):List Int:=c.par.map fun p=>all.getD p.toNat 0
def R2Rel (Wc:World) (s:St) (c:Cm) (all:List Int) (g:Nat) (odv uv iv:Value) (wr:World):Prop:=
 ∃ (j:Nat) (S4 S5:Nat→Prop),j+g=c.par.length∧iv = .int .i64 (j:Nat)∧Sl wr S4 96 2 odv (ecells (if j=0 then [] else oldS s c)) (if j=0 then [] else oldS s c).length∧Sl wr S5 3 1 uv (ic ((upsOf all c).take j)) j ∧
  (∀ b,S4 b→Wc.heap.size≤b∧b<wr.heap.size)∧(∀ b,S5 b→Wc.heap.size≤b∧b<wr.heap.size)∧(∀ b,S4 b→¬ S5 b)∧Turned (fun b=>Wc.heap.size≤b) Wc wr
theorem r2_next {Wc wr w3 W w5:World} {s:St} {c:Cm} {all:List Int} {g j:Nat} {S4 S5:Nat→Prop} {odv uv:Value} {x:Int} (hjg:j+(g+1)=c.par.length)
  (hold:Sl w3 S4 96 2 odv (ecells (oldS s c)) (oldS s c).length) (b4:∀ b,S4 b→Wc.heap.size≤b∧b<w3.heap.size) (b5:∀ b,S5 b→Wc.heap.size≤b∧b<wr.heap.size) (d45:∀ b,S4 b→¬ S5 b)
  (ht:Turned (fun b=>Wc.heap.size≤b) Wc wr) (t3:Turned (fun _=>False) wr w3) (tW:Turned (fun _=>False) w3 W) (t5:Turned S5 W w5) (hx:(upsOf all c)[j]? = some x)
  (hs:Sl w5 (More S5 W) 3 1 uv (ic ((upsOf all c).take j) ++ [.int .i64 x]) (j+1)):R2Rel Wc s c all g odv uv (.int .i64 ((j+1:Nat):Int)) w5:=by
 have z1:=ht.size
 have z3:=t3.size
 have zW:=tW.size
 have z5:=t5.size
 have t:Turned S5 w3 w5:=tW.comp t5 fun i _ q=>q.elim False.elim id
 have hb:=hs.bound
 refine ⟨j+1,S4,fun b=>More S5 W b∧b<w5.heap.size,by omega,rfl,?_,?_,fun b hb=>?_,fun b hb=>?_,fun b hb q=>?_,ht.trans ((t3.comp t fun i _ q=>q.elim False.elim id):Turned S5 wr w5) fun i _ q=>(b5 i q).1⟩
 ·rw [if_neg (by omega)]
  exact hold.turned t fun b hb q=>d45 b hb q
 ·rw [List.take_add_one, hx, ic_app]
  exact hb
 ·have:=b4 b hb;omega
 ·rcases hb with ⟨q | q, hl⟩
  ·exact ⟨(b5 b q).1,hl⟩
  ·exact ⟨by omega,hl⟩
 ·rcases q.1 with y | y
  ·exact d45 b hb y
  ·have:=b4 b hb;omega
theorem upsOf_at {all:List Int} {c:Cm} {j pk:Nat} {x:Int} (h:c.par[j]? = some (pk:Int)) (hx:all[pk]? = some x):(upsOf all c)[j]? = some x:=by
 unfold upsOf
 rw [List.getElem?_map,h,Option.map_some,Int.toNat_natCast,List.getD_eq_getElem?_getD,hx];rfl
theorem oldS_zero {s:St} {c:Cm} {p:Int} (h:c.par[0]? = some p):oldS s c=contentS s p:=by
 unfold oldS
 cases hc:c.par with
 |nil=>rw [hc]at h;simp at h
 |cons y l=>rw [hc]at h;simp at h;subst h;rfl
theorem contentS_ok {s:St} (h:StGood s) (m:Int):(contentS s m).length≤1024∧∀ x∈contentS s m,(x.2≠0∧x.2<4294967296)∧x.1.size≤1000000000:=by
 have key:contentS s m=[]∨contentS s m∈s.trees:=by
  unfold contentS treeS
  split
  ·exact .inl rfl
  ·split
   ·exact .inl rfl
   ·rename_i t ht
    exact .inr (List.mem_of_getElem? ht)
 rcases key with q|q
 ·rw [q];exact ⟨by simp,fun x hx=>by simp at hx⟩
 ·obtain ⟨h1, h2⟩ := h.tree _ q
  refine ⟨h1.1,fun x hx=>?_⟩
  obtain ⟨h3,h4⟩:=checkT_each _ none h1.2 x hx
  exact ⟨⟨h4,h2 x hx⟩,by omega⟩
theorem oldS_ok {s:St} (h:StGood s) (c:Cm):(oldS s c).length≤1024∧∀ x∈oldS s c,(x.2≠0∧x.2<4294967296)∧x.1.size≤1000000000:=by
 unfold oldS
 split
 ·exact ⟨by simp,fun x hx=>by simp at hx⟩
 ·exact contentS_ok h _
structure BoxAt (wr Wx:World) (bx:Nat) (f1:Int) (f2:ByteArray):Prop where
 at_:Wx.heap[bx]? = some (.cells #[.int .i64 f1,.string f2] 46)
 new:wr.heap.size≤bx
 tu:Turned (fun _=>False) wr Wx
theorem BoxAt.last {wr w7:World} {f1:Int} {f2:ByteArray} (t:Turned (fun _=>False) wr w7):BoxAt wr (w7.alloc (.cells #[.int .i64 f1,.string f2] 46)) w7.heap.size f1 f2:=⟨Go.Mine.heap_alloc_new _ _,t.size,t.new _⟩
theorem BoxAt.set {wr w7:World} {bx:Nat} {f1 x:Int} {f2 y:ByteArray} (t:Turned (fun _=>False) wr w7) (h:w7.heap[bx]? = some (.cells #[.int .i64 x,.string y] 46)) (hb:wr.heap.size≤bx):BoxAt wr ((w7.setCell ⟨bx,0,none⟩ (.int .i64 f1)).setCell ⟨bx,1,none⟩ (.string f2)) bx f1 f2:=
 ⟨set2 h _ _,hb,(t.fresh hb _).fresh hb _⟩
theorem info48r:(Tryz.prog.info? 48).map (fun i=>(i.zero,i.size,i.bytes))=some (some (.agg #[.slice none 0 0,.int .i64 0,.int .i64 0,.int .i64 0,.string ⟨#[]⟩]),5,64):=by kernel_rfl
theorem src48 (a b c d e:Value) (h1:∀ u∈[a,b,c,d,e],u.oneCell'=true) (U:World):Src Tryz.prog 5 121 (.slice (some ⟨U.heap.size,0,none⟩) 1 1) 1 [a,b,c,d,e] (U.alloc (.cells #[a,b,c,d,e] 48))∧Src Tryz.prog 5 121 (.slice (some ⟨U.heap.size,0,none⟩) 1 1) 1 [a,b,c,d,e] (U.alloc (.cells #[a,b,c,d,e] 48)).drew∧Src Tryz.prog 5 121 (.slice (some ⟨U.heap.size,0,none⟩) 1 1) 1 [a,b,c,d,e] (U.alloc (.cells #[a,b,c,d,e] 48)).drew.drew:=by
 refine ⟨src_new 48 Tryz.underlying121 _ h1 U,src_newD 48 Tryz.underlying121 _ h1 U,?_⟩
 refine Src.ofSlice _ Tryz.underlying121 ⟨U.heap.size,0,none⟩ 1 1 [a,b,c,d,e] rfl (fun j u hj=>?_) h1
 rw [Addr.add_lit,Nat.zero_add]
 exact cell_of (w:=(U.alloc (.cells #[a,b,c,d,e] 48)).drew.drew) (Go.Mine.heap_alloc_new U _) j u (by simpa using hj)
theorem ups_i64 {all:List Int} (h:GenOk all) (c:Cm):∀ x∈upsOf all c,I64 x:=fun x hx=>by
 obtain ⟨p,-,rfl⟩:=List.mem_map.1 hx
 rw [List.getD_eq_getElem?_getD]
 cases hp:all[p.toNat]? with
 |none=>simp [I64]
 |some y=>have:=h y (List.mem_of_getElem? hp);simp only [Option.getD_some];exact ⟨by omega,by omega⟩
theorem genOf_eq (all:List Int) (c:Cm):nextG (upsOf all c)=genOf all c:=rfl
structure EndAt (V w8:World) (S1 S2 S3:Nat→Prop) (av ov:Value) (all' : List Int) (out:List Rw) (bc bx:Nat) (pv:Value) (tr:Int) (f1:Int) (f2:ByteArray):Prop where
 ro:RoAt V w8 S1 S2 S3 av ov all' out
 cb:w8.heap[bc]? = some (.cells #[pv,.int .i64 tr] 55)
 fb:w8.heap[bx]? = some (.cells #[.int .i64 f1,.string f2] 46)
theorem row_next {V w8 W w9:World} {S1 S2 S3 P:Nat→Prop} {av ov v' : Value} {all' : List Int} {out:List Rw} {r:Rw} {rvs:List Value} {pa:Option Addr} {pc:Nat} (h:RoAt V w8 S1 S2 S3 av ov all' out) (h1:Sl w8 S2 48 5 ov rvs out.length) (h2:∀ r∈out,RwOk r)
  (h3:∀ (i:Nat) (r:Rw),out[i]? = some r→∃ a cap,rvs[i * 5]? = some (.slice a r.par.length cap)∧rvs[i * 5+1]? = some (.int .i64 r.tree)∧rvs[i * 5+2]? = some (.int .i64 r.gen)∧rvs[i * 5+3]? = some (.int .i64 r.state)∧rvs[i * 5+4]? = some (.string r.bits)∧Ints w8 S3 a cap r.par)
  (tW:Turned (fun _=>False) w8 W) (t2:Turned S2 W w9) (hr:RwOk r) (hp:Ints w8 P pa pc r.par) (hP:∀ b,P b→V.heap.size≤b∧b<w8.heap.size∧¬ S1 b∧¬ S2 b)
  (hs:Sl w9 (More S2 W) 48 5 v' (rvs ++ [.slice pa r.par.length pc,.int .i64 r.tree,.int .i64 r.gen,.int .i64 r.state,.string r.bits]) (out.length+1))
  {s:St} {g:Stg} {K gk:Nat} {known all:List Int} {x:Int} (e1:all'=all ++ [x]) (e2:all.length+(gk+1)=s.commits.length) (e3:GenOk all') (e4:out ++ rowsX s g (gk+1) all=rowsX s g K known) (e5:out.length+(gk+1)=K)
  (e6:x=genOf all (commitS s all.length).1) (e7:r=rowOf s g all.length x):R1Rel V s g K known gk v' av (.int .i64 ((all.length+1:Nat):Int)) w9:=by
 obtain ⟨S2',S3',h9⟩:=h.pushOut h1 h2 h3 tW t2 hr hp hP hs
 refine ⟨all',out ++ [r],S1,S2',S3',?_,?_,h9,e3,?_,?_⟩
 ·rw [e1,List.length_append];simp only [List.length_cons,List.length_nil];omega
 ·rw [e1,List.length_append];rfl
 ·rw [←e4,rowsX,←e6,←e7,e1,List.append_assoc];rfl
 ·rw [List.length_append];simp only [List.length_cons,List.length_nil];omega
def RwPost (w:World) (l:List Rw) (e:Ending) (w' : World):Prop:=
 ∃ v S2 S3,e = .returned v∧RowsAt w' S2 S3 v l∧(∀ b,S2 b→w.heap.size≤b)∧(∀ b,S3 b→w.heap.size≤b)∧(∀ b,S2 b∨S3 b→b<w'.heap.size)∧Turned (fun _=>False) w w'
theorem ic_one (l:List Int):∀ u∈ic l,u.oneCell'=true:=fun u hu=>by
 unfold ic at hu
 obtain ⟨x,-,rfl⟩:=List.mem_map.1 hu
 rfl
set_option maxHeartbeats 8000000 in
theorem xrows_any {w:World} {rs:Nat→Nat} {q:Nat} {dv tv cv:Value} {s:St} (hs:StAt 140 w rs q dv tv cv s) (hgood:StGood s) (g:Stg) (hg:goodStg g) (hsd:g.seed<4294967296) {S:Nat→Prop} {ka:Option Addr} {kc:Nat} {known:List Int}
  (hk:Sl w S 3 1 (.slice ka known.length kc) (ic known) known.length) (hgen:GenOk known) (hkl:known.length≤s.commits.length) :
  Calls Tryz.prog 63 #[.iface 34 (pt q),stgv g,.slice ka known.length kc] w (RwPost w (rowsX s g (s.commits.length - known.length) known)):=by
 obtain ⟨Z,hZ⟩:∃ Z,Z=RwPost w (rowsX s g (s.commits.length - known.length) known):=⟨_,rfl⟩
 have HZ:Hid (Z=RwPost w (rowsX s g (s.commits.length - known.length) known)):=hZ
 rw [←hZ]
 have hC:=hgood.commits
 have m1:=meth_commits q
 have m2:=meth_commit q
 obtain ⟨V,hV⟩:∃ V,V=w.alloc (.cells #[.int .i64 g.h,.int .i64 g.p,.int .i64 g.m,.int .u32 (g.seed:Nat)] 24):=⟨_,rfl⟩
 have HVV:Hid (V=w.alloc (.cells #[.int .i64 g.h,.int .i64 g.p,.int .i64 g.m,.int .u32 (g.seed:Nat)] 24)):=hV
 have tV:Turned (fun _=>False) w V:=by rw [hV];exact Turned.alloc _ _ _
 have xV:V.heap[w.heap.size]? = some (.cells #[.int .i64 g.h,.int .i64 g.p,.int .i64 g.m,.int .u32 (g.seed:Nat)] 24):=by rw [hV];exact heap_alloc_new _ _
 have hltV:=lt_of_block xV
 have TV:Hid (Turned (fun _=>False) w V∧w.heap.size<V.heap.size):=⟨tV,hltV⟩
 have HBX:Hid (∀ (W:World),Turned (fun b=>V.heap.size≤b) V W→W.cell? ⟨w.heap.size,0,none⟩=some (.int .i64 g.h)∧W.cell? ⟨w.heap.size,1,none⟩=some (.int .i64 g.p)∧W.cell? ⟨w.heap.size,2,none⟩=some (.int .i64 g.m)∧W.cell? ⟨w.heap.size,3,none⟩=some (.int .u32 (g.seed:Nat))∧w.heap.size<W.heap.size):=fun W t=>by
  have ha:=boxed xV t (by omega)
  exact ⟨cell_of ha 0 _ rfl,cell_of ha 1 _ rfl,cell_of ha 2 _ rfl,cell_of ha 3 _ rfl,lt_of_block ha⟩
 have HST:Hid (∀ (W:World),Turned (fun b=>V.heap.size≤b) V W→StAt 140 W rs q dv tv cv s):=fun W t=>(hs.turned tV fun _ _ z=>z).turned t fun b hb z=>by have:=hs.bnd b hb;have:=tV.size;omega
 have HGD:Hid (StGood s∧goodStg g∧g.seed<4294967296):=⟨hgood,hg,hsd⟩
 have HCL:Hid (Calls Tryz.prog 65 #[.slice ka known.length kc] V fun e w'=>∃ v,e = .returned v∧Sl w' (fun b=>V.heap.size≤b) 3 1 v (ic known) known.length∧Turned (fun _=>False) V w'):=
  clone_ints V (fun w' t=>((hk.turned tV fun _ _ z=>z).turned t fun _ _ z=>z).src Tryz.underlying41 (ic_one _)) (sl_none hk) (by omega)
 obtain ⟨K,hK⟩:∃ K,K=s.commits.length - known.length:=⟨_,rfl⟩
 obtain ⟨kn,hkn⟩:∃ kn,kn=known.length:=⟨_,rfl⟩
 obtain ⟨C,hCC⟩:∃ C,C=s.commits.length:=⟨_,rfl⟩
 have HC:Hid (C=s.commits.length∧C≤65536∧kn=known.length∧K=C - kn∧kn≤C):=⟨hCC,by omega,hkn,by omega,by omega⟩
 have HGN:Hid (GenOk known):=hgen
 have HCM:Hid (∀ W,Turned (fun b=>V.heap.size≤b) V W→Calls Tryz.prog 30 #[pt q] W fun e w'=>e = .returned (.int .i64 (C:Nat))∧W=w'):=fun W t=>by rw [hCC];exact scommits_any (HST.out W t)
 have HZ2:Hid (Z=RwPost w (rowsX s g K known)):=by rw [hK];exact hZ
 rw [←hkn]at HCL ⊢
 clear hZ HZ hC hV tV xV hltV hs hgood hg hsd hk hgen hkl hK hkn hCC
 go_enter Tryz.func63,Tryz.ntmps63
 go_wp2_with fail
 rw [←HVV.out]
 go_wp2_with (go_at_call 65;(with_reducible refine HCL.out.mono ?_);rintro e w1 ⟨v1,rfl,hsl,ht⟩;obtain ⟨a1,c1,rfl,-,-⟩:=hsl.value;have P1:Hid _:=hidS (And.intro hsl ht);clear hsl ht)
 have B0:Hid (R1Rel V s g K known K (.slice none 0 0) (.slice a1 kn c1) (.int .i64 (kn:Nat)) w1):=by
  obtain ⟨h1,h2,h3,h4,h5⟩:=HC.out
  refine ⟨known,[],fun b=>V.heap.size≤b∧b<w1.heap.size,fun _=>False,fun _=>False,by omega,by rw [h3],⟨by rw [←h3];exact P1.out.1.bound,RowsAt.nil _ _ _,fun b hb=>hb,fun b hb=>hb.elim,fun b hb=>hb.elim,fun b _ z=>z,fun b _ z=>z,fun b z=>z.elim,P1.out.2.mono fun _ _ z=>z.elim⟩,HGN.out,rfl,by simp⟩
 clear HCL
 go_loopg [7,8,9] K (fun gk ov av nv wr=>R1Rel V s g K known gk ov av nv wr)
 case atStart=>exact B0.out
 case round=>
  clear B0
  obtain ⟨all,out,S1,S2,S3,hng,rfl,hro,hall,hrows,hol⟩:=hrel
  have RO:Hid (RoAt V wr S1 S2 S3 u8 u7 all out):=hro
  obtain ⟨aa,ac,rfl,-,-⟩:=hro.al.value
  obtain ⟨rvs,hrv,-,-⟩:=hro.ou
  obtain ⟨oa,oc,rfl,-,-⟩:=hrv.value
  clear hrv rvs
  have HRW:Hid (GenOk all∧out ++ rowsX s g gk all=rowsX s g K known∧out.length+gk=K∧all.length+gk=s.commits.length):=⟨hall,hrows,hol,hng⟩
  obtain ⟨n,hn⟩:∃ n,n=all.length:=⟨_,rfl⟩
  have HN:Hid (n=all.length∧n+gk=C∧n≤65536):=⟨hn,by have:=HC.out.1;omega,by have:=HC.out;omega⟩
  rw [←hn]
  have TWR:Hid (Turned (fun b=>V.heap.size≤b) V wr):=hro.tu
  clear hro hall hrows hol hng hn
  by_cases hlt:n<C
  ·obtain ⟨c, hc, hcc⟩ := commitS_get (s := s) (n := n) (by have := HC.out.1; omega)
   have hcs:=commitS_some hc
   obtain ⟨gp1,gp2,gp3,gp4⟩:=HGD.out.1.commit n c hc
   have HCO:Hid (Calls Tryz.prog 192 #[pt q,.int .i64 (n:Nat)] wr (ComPost wr s (n:Nat))):=hidS (scommit_any (HST.out wr TWR.out) (n:Nat) (by have:=HC.out;omega) fun y hy=>by
    obtain ⟨i,hi⟩:=List.getElem?_of_mem hy
    have:=(HGD.out.1.commit i y hi).1
    omega)
   unfold ComPost at HCO
   rw [hcs]at HCO
   dsimp only at HCO
   have HCT:Hid (∀ W,Turned (fun b=>V.heap.size≤b) V W→∀ m:Int,Calls Tryz.prog 141 #[.iface 34 (pt q),.int .i64 m] W (CtnPost W s m)):=fun W t m=>xcontent_any (HST.out W t) m (by have:=HGD.out.1.commits;omega) (fun y hy=>by
    obtain ⟨i,hi⟩:=List.getElem?_of_mem hy
    have:=(HGD.out.1.commit i y hi).1
    omega) (by have:=HGD.out.1.trees;omega) fun t ht=>by have:=(HGD.out.1.tree t ht).1.1;omega
   have HCC:Hid (s.commits[n]? = some c∧(commitS s n).1=c∧c.par.length≤16∧goodP n c.par∧0≤c.tree∧c.tree<s.trees.length):=⟨hc,hcc,gp1,gp2,gp3,gp4⟩
   obtain ⟨P,hP⟩:∃ P,P=c.par.length:=⟨_,rfl⟩
   have HP:Hid (P=c.par.length∧P≤16):=⟨hP,by omega⟩
   rw [←hP]at HCO
   clear hc hcc hcs gp1 gp2 gp3 gp4 hP
   go_wp2_with (first|(go_at_call 30;(with_reducible refine (HCM.out wr TWR.out).mono ?_);rintro e w2 ⟨rfl,rfl⟩)|(go_at_call 192;(with_reducible refine HCO.out.mono ?_);rintro e w2 ⟨v2,rfl,hsl2,ht2⟩;obtain ⟨a2,c2,rfl,-,-⟩:=hsl2.value;have P2:Hid _:=hidS (And.intro hsl2 ht2);clear hsl2 ht2))
   obtain ⟨Wc,hWc⟩:∃ Wc,Wc=w2.alloc (.cells #[.slice a2 P c2,.int .i64 c.tree] 55):=⟨_,rfl⟩
   have HWc:Hid (Wc=w2.alloc (.cells #[.slice a2 P c2,.int .i64 c.tree] 55)):=hWc
   rw [←hWc]
   have tWc:Turned (fun _=>False) w2 Wc:=by rw [hWc];exact Turned.alloc _ _ _
   have RC:Hid (RoAt V Wc S1 S2 S3 (.slice aa all.length ac) (.slice oa out.length oc) all out):=hidS (RO.out.keep ((P2.out.2.trans tWc fun _ _ z=>z).mono fun _ _ z=>z.elim))
   have xc:Wc.heap[w2.heap.size]? = some (.cells #[.slice a2 P c2,.int .i64 c.tree] 55):=by rw [hWc];exact heap_alloc_new _ _
   have HXC:Hid (∀ W,Turned (fun b=>Wc.heap.size≤b) Wc W→W.heap[w2.heap.size]? = some (.cells #[.slice a2 P c2,.int .i64 c.tree] 55)):=fun W t=>boxed xc t (by have:=lt_of_block xc;omega)
   have HPA:Hid (Sl Wc (fun b=>wr.heap.size≤b∧b<w2.heap.size) 3 1 (.slice a2 P c2) (ic c.par) P∧wr.heap.size≤w2.heap.size∧w2.heap.size<Wc.heap.size):=⟨P2.out.1.bound.turned tWc fun _ _ z=>z,P2.out.2.size,by have:=lt_of_block xc;exact this⟩
   clear hWc tWc HCO xc
   have B2:Hid (R2Rel Wc s c all P (.slice none 0 0) (.slice none 0 0) (.int .i64 0) Wc):=
    ⟨0,fun _=>False,fun _=>False,by have:=HP.out.1;omega,rfl,by simpa [ecells] using Sl.nil _ _ _ _,by simpa [ic] using Sl.nil _ _ _ _,fun b hb=>hb.elim,fun b hb=>hb.elim,fun b hb=>hb.elim,Turned.refl _ _⟩
   generalize wr=WL at *
   generalize hgkk:gk=Gk at *
   clear hgkk
   go_loopg [12,13,37] P (fun g odv uv iv wr=>R2Rel Wc s c all g odv uv iv wr)
   case atStart=>exact B2.out
   case round=>
    clear B2
    obtain ⟨j,S4,S5,hjg,rfl,hold,hup,b4,b5,d45,ht⟩:=hrel
    have G2:Hid (j+gk=c.par.length):=hjg
    have HT:Hid (Turned (fun b=>Wc.heap.size≤b) Wc wr):=ht
    obtain ⟨da,dc,rfl,-,-⟩:=hold.value
    obtain ⟨ua,uc,rfl,-,-⟩:=hup.value
    obtain ⟨dn,hdn⟩:∃ dn,dn=(if j=0 then [] else oldS s c).length:=⟨_,rfl⟩
    rw [←hdn]at hold ⊢
    have HDN:Hid (dn=(if j=0 then [] else oldS s c).length):=hdn
    have HOU:Hid (Sl wr S4 96 2 (.slice da dn dc) (ecells (if j=0 then [] else oldS s c)) dn∧Sl wr S5 3 1 (.slice ua j uc) (ic ((upsOf all c).take j)) j∧(∀ b,S4 b→Wc.heap.size≤b∧b<wr.heap.size)∧(∀ b,S5 b→Wc.heap.size≤b∧b<wr.heap.size)∧(∀ b,S4 b→¬ S5 b)):=⟨hold,hup,b4,b5,d45⟩
    have RW:=RC.out.keep HT.out
    have TVR:Hid (Turned (fun b=>V.heap.size≤b) V wr):=RW.tu
    clear hjg hold hup b4 b5 d45 ht hdn
    by_cases hlt2:j<P
    ·obtain ⟨p, hp⟩ : ∃ p, c.par[j]? = some p := ⟨_, List.getElem?_eq_getElem (by rw [← HP.out.1]; exact hlt2)⟩
     obtain ⟨hp0,hpn,-⟩:=HCC.out.2.2.2.1 j p hp
     obtain ⟨pk,rfl⟩:=Int.eq_ofNat_of_zero_le hp0
     have hpk:pk<n:=by omega
     obtain ⟨x,hx⟩:∃ x,all[pk]? = some x:=⟨_,List.getElem?_eq_getElem (by rw [←HN.out.1];exact hpk)⟩
     have HPX:Hid (c.par[j]? = some (pk:Int)∧all[pk]? = some x∧pk<n):=⟨hp,hx,hpk⟩
     obtain ⟨g1,o1,k1,hv1,hs1,-,-,hcell1,-,hl1⟩:=RW.al.opens (by rw [←HN.out.1];omega)
     simp only [Value.slice.injEq]at hv1
     obtain ⟨rfl,-,-⟩:=hv1
     have c0:wr.cell? ⟨g1,o1+pk,none⟩=some (.int .i64 x):=by
      rw [hcell1 pk (by rw [←HN.out.1];omega)]
      unfold ic
      rw [List.getElem?_map,hx];rfl
     obtain ⟨g2,o2,k2,hv2,hs2,-,-,hcell2,-,hl2⟩:=HPA.out.1.opens (by omega)
     simp only [Value.slice.injEq]at hv2
     obtain ⟨rfl,-,-⟩:=hv2
     have hng2:¬ Wc.heap.size≤g2:=by omega
     have c1:wr.cell? ⟨g2,o2+j,none⟩=some (.int .i64 (pk:Int)):=cell_at (by
      rw [hcell2 j (by omega)]
      unfold ic
      rw [List.getElem?_map,hp];rfl) HT.out hng2
     have hgr2:g2<wr.heap.size:=Nat.lt_of_lt_of_le hl2 HT.out.size
     have d1:decide ((pk:Int)<0)=false:=by simp
     have d2:decide ((n:Int)≤(pk:Int))=false:=by simp;omega
     have d3:decide (n≤pk)=false:=by simp;omega
     have m1:Hid (j+1≤maxLen∧(j+1) * 8≤140737488355328):=hidS (by have:=HP.out;simp only [maxLen];omega)
     clear hp hp0 hpn hx hcell1 hs1 hcell2 hs2 hl2 hng2 RW
     by_cases hj0:j=0
     ·subst hj0
      rw [Nat.add_zero]at c1
      have HQ:Hid _:=hidS (HCT.out wr TVR.out (pk:Int))
      unfold CtnPost at HQ
      go_wp2_with (first|(go_at_call 141;(with_reducible refine HQ.out.mono ?_);rintro e3 w3 ⟨v3,rfl,hsl3,ht3⟩;obtain ⟨a3,c3,rfl,-,-⟩:=hsl3.value;have P3:Hid _:=hidS (And.intro hsl3 ht3);have c0:w3.cell? ⟨g1,o1+pk,none⟩=some (.int .i64 x):=cell_at c0 ht3 id;have hl1:g1<w3.heap.size:=Nat.lt_of_lt_of_le hl1 ht3.size;clear hsl3 ht3)|(at_builtin;refine wpList_append rfl _ _ 41 41 rfl (HOU.out.2.1.turned (T:=fun _=>False) (P3.out.2.new _) (fun _ _ z=>z)) Tryz.underlying41 info3g rfl (by decide) rfl (.slice (some ⟨w3.heap.size,0,none⟩) 1 1) rfl (src_one (P:=Tryz.prog) Tryz.underlying41 (.int .i64 x) rfl w3) m1.out.1 m1.out.2 ?_;intro v5 w5 hsl5 ht5;obtain ⟨a5,c5,rfl,-,-⟩:=hsl5.value;have Y:Hid _:=hidS (And.intro hsl5 ht5);clear hsl5 ht5))
      go_roundg (gk - 1)
      case measure=>have:=G2.out;have:=HP.out;omega
      case rel=>
       have e1:=oldS_zero (s:=s) HPX.out.1
       refine r2_next (g:=gk - 1) (j:=0) (S4:=fun b=>wr.heap.size≤b∧b<w3.heap.size) (by have:=G2.out;have:=HP.out;omega) (by rw [e1];exact P3.out.1.bound) (fun b hb=>⟨Nat.le_trans HT.out.size hb.1,hb.2⟩) HOU.out.2.2.2.1 (fun b hb z=>by have:=HOU.out.2.2.2.1 b z;omega) HT.out P3.out.2 (Turned.alloc _ _ _) Y.out.2 (upsOf_at HPX.out.1 HPX.out.2.1) Y.out.1
     ·have e3 : ((j : Int) == 0) = false := by simp; omega
      have e4:(j == 0)=false:=by simp;omega
      have HJ0:Hid (¬ j=0):=hj0
      clear hj0
      go_wp2_with (at_builtin;refine wpList_append rfl _ _ 41 41 rfl (HOU.out.2.1.turned (T:=fun _=>False) (Turned.alloc _ _ _) (fun _ _ z=>z)) Tryz.underlying41 info3g rfl (by decide) rfl (.slice (some ⟨wr.heap.size,0,none⟩) 1 1) rfl (src_one (P:=Tryz.prog) Tryz.underlying41 (.int .i64 x) rfl wr) m1.out.1 m1.out.2 ?_;intro v5 w5 hsl5 ht5;obtain ⟨a5,c5,rfl,-,-⟩:=hsl5.value;have Y:Hid _:=hidS (And.intro hsl5 ht5);clear hsl5 ht5)
      go_roundg (gk - 1)
      case measure=>have:=G2.out;have:=HP.out;omega
      case rel=>
       have h1:=HOU.out.1
       rw [HDN.out,if_neg HJ0.out]at h1
       have hw:wrap64 ((j:Int)+1)=((j+1:Nat):Int):=by have:=HP.out;simp only [wrap64];omega
       rw [hw,HDN.out,if_neg HJ0.out]
       exact r2_next (g:=gk - 1) (by have:=G2.out;have:=HP.out;omega) h1 HOU.out.2.2.1 HOU.out.2.2.2.1 HOU.out.2.2.2.2 HT.out (Turned.refl _ _) (Turned.alloc _ _ _) Y.out.2 (upsOf_at HPX.out.1 HPX.out.2.1) Y.out.1
    ·have hj : j = P := by have := G2.out; have := HP.out; omega
     clear hlt2
     have hold:Sl wr S4 96 2 (.slice da dn dc) (ecells (oldS s c)) dn∧dn=(oldS s c).length:=by
      have h1:=HOU.out.1
      have h2:=HDN.out
      by_cases hj0:j=0
      ·have h3 : oldS s c = [] := by
        have h4:c.par=[]:=List.eq_nil_of_length_eq_zero (by have:=HP.out.1;omega)
        unfold oldS;rw [h4]
       rw [if_pos hj0]at h1 h2
       rw [h3];exact ⟨h1,h2⟩
      ·rw [if_neg hj0] at h1 h2
       exact ⟨h1,h2⟩
     have hup:Sl wr S5 3 1 (.slice ua j uc) (ic (upsOf all c)) j∧j=(upsOf all c).length:=by
      have h1:=HOU.out.2.1
      have h2:(upsOf all c).length=j:=by unfold upsOf;rw [List.length_map];have:=HP.out.1;omega
      rw [List.take_of_length_le (by omega)]at h1
      exact ⟨h1,h2.symm⟩
     have HU:Hid (Sl wr S5 3 1 (.slice ua j uc) (ic (upsOf all c)) j∧j=(upsOf all c).length):=hup
     obtain ⟨F,hF⟩:∃ F,F=ofF g (oldS s c) (contentS s (n:Nat)):=⟨_,rfl⟩
     have HF:Hid (F=ofF g (oldS s c) (contentS s (n:Nat))):=hF
     have HC18:Hid (∀ W,Turned (fun _=>False) wr W→Calls Tryz.prog 141 #[.iface 34 (pt q),.int .i64 (n:Nat)] W fun e w'=>∃ a cap,e = .returned (.slice a (contentS s (n:Nat)).length cap)∧Sl w' (fun b=>b<w'.heap.size) 96 2 (.slice a (contentS s (n:Nat)).length cap) (ecells (contentS s (n:Nat))) (contentS s (n:Nat)).length∧Turned (fun _=>False) wr w'∧Turned (fun _=>False) W w'):=fun W t=>(HCT.out W (TVR.out.trans t fun _ _ z=>z.elim) (n:Nat)).mono fun e w' ⟨v,h1,h2,h3⟩=>by
      obtain ⟨a,cap,rfl,-,-⟩:=h2.value
      exact ⟨a,cap,h1,h2.bound.widen fun b hb=>hb.2,t.trans h3 fun _ _ z=>z,h3⟩
     have HOF:Hid (∀ W a cap,Turned (fun _=>False) wr W→Sl W (fun b=>b<W.heap.size) 96 2 (.slice a (contentS s (n:Nat)).length cap) (ecells (contentS s (n:Nat))) (contentS s (n:Nat)).length →
       Calls Tryz.prog 142 #[.agg #[.int .i64 g.h,.int .i64 g.p,.int .i64 g.m,.int .u32 (g.seed:Nat)],.slice da dn dc,.slice a (contentS s (n:Nat)).length cap] W fun e w'=>e = .returned (.tuple #[fltv F,.int .i64 0])∧Turned (fun _=>False) wr w'∧Turned (fun _=>False) W w'):=fun W a cap t h=>by
      have ho:=(hold.1.turned t fun _ _ z=>z).bound.widen (T:=fun b=>b<W.heap.size) fun b hb=>hb.2
      rw [hold.2]at ho
      have h1:=oldS_ok HGD.out.1 c
      have h2:=contentS_ok HGD.out.1 (n:Nat)
      have:=bof_any g (va:=.slice da dn dc) (vb:=.slice a (contentS s (n:Nat)).length cap) HGD.out.2.2 (by rw [hold.2];exact ho) h (fun b hb=>hb) h1.2 h2.2 (by omega) (by omega)
      refine this.mono fun e w' ⟨e1,e2⟩=>⟨?_,t.trans e2 fun _ _ z=>z,e2⟩
      rw [e1,hF]
      unfold mkV
      rw [if_pos HGD.out.2.1]
      rfl
     obtain ⟨v0,v1,v2,v3,v4⟩:=HBX.out wr TVR.out
     obtain ⟨f1,f2⟩:=F
     obtain ⟨G,hG⟩:∃ G,G=genOf all c:=⟨_,rfl⟩
     have HGG:Hid (G=genOf all c):=hG
     have HNX:Hid (∀ W,Turned (fun _=>False) wr W→Calls Tryz.prog 143 #[.slice ua j uc] W fun e w'=>e = .returned (.int .i64 G)∧W=w'):=fun W t=>by
      have h1:=hup.1.turned t fun _ _ z=>z
      rw [hup.2]at h1
      obtain ⟨a',cap',hv,hi⟩:=sl_ic h1 (ups_i64 HRW.out.1 c)
      simp only [Value.slice.injEq]at hv
      obtain ⟨rfl,-,rfl⟩:=hv
      have:=next_gen hi (by rw [←hup.2];have:=HP.out;omega)
      rw [genOf_eq,←hG,←hup.2]at this
      exact this
     have HAL:Hid (∀ W,Turned (fun _=>False) wr W→Sl W S1 3 1 (.slice aa n ac) (ic all) n):=fun W t=>by
      have:=RW.al.turned t fun _ _ z=>z
      rw [←HN.out.1]at this
      exact this
     have m2:Hid (n+1≤maxLen∧(n+1) * 8≤140737488355328):=hidS (by have:=HN.out;simp only [maxLen];omega)
     have HRO:Hid (RoAt V wr S1 S2 S3 (.slice aa all.length ac) (.slice oa out.length oc) all out):=RW
     clear RW hG
     clear hold hup hF
     subst hj
     go_wp2
     have KS:Hid (∀ W,Turned (fun _=>False) wr W→Turned (fun _=>False) wr W∧W.cell? ⟨w.heap.size,0,none⟩=some (.int .i64 g.h)∧W.cell? ⟨w.heap.size,1,none⟩=some (.int .i64 g.p)∧W.cell? ⟨w.heap.size,2,none⟩=some (.int .i64 g.m)∧W.cell? ⟨w.heap.size,3,none⟩=some (.int .u32 (g.seed:Nat))):=(fun W t=>by
      obtain ⟨h0,h1,h2,h3,-⟩:=HBX.out W (TVR.out.trans t fun _ _ z=>z.elim)
      exact ⟨t,h0,h1,h2,h3⟩:∀ W,Turned (fun _=>False) wr W→Turned (fun _=>False) wr W∧W.cell? ⟨w.heap.size,0,none⟩=some (.int .i64 g.h)∧W.cell? ⟨w.heap.size,1,none⟩=some (.int .i64 g.p)∧W.cell? ⟨w.heap.size,2,none⟩=some (.int .i64 g.m)∧W.cell? ⟨w.heap.size,3,none⟩=some (.int .u32 (g.seed:Nat)))
     clear v0 v1 v2 v3
     go_region_held3 (fun W=>Turned (fun _=>False) wr W∧W.cell? ⟨w.heap.size,0,none⟩=some (.int .i64 g.h)∧W.cell? ⟨w.heap.size,1,none⟩=some (.int .i64 g.p)∧W.cell? ⟨w.heap.size,2,none⟩=some (.int .i64 g.m)∧W.cell? ⟨w.heap.size,3,none⟩=some (.int .u32 (g.seed:Nat)))
      (first|(exact KS.out _ (Turned.refl _ _))|(exact KS.out _ (Turned.drew _ _))|(exact KS.out _ (by assumption))|(exact KS.out _ ((Turned.alloc _ _ _).draw))|(exact KS.out _ ((by assumption:Turned (fun _=>False) wr _).new _))|(exact KS.out _ (((by assumption:Turned (fun _=>False) wr _).fresh (Nat.le_refl _) _).fresh (Nat.le_refl _) _))|(exact KS.out _ (((by assumption:Turned (fun _=>False) wr _).fresh P6.out.2.size _).fresh P6.out.2.size _))|go_keep)
      (first
       |(go_at_call 141;(with_reducible refine (HC18.out wr.drew (Turned.drew _ _)).mono ?_);rintro e6 w6 ⟨a6,c6,rfl,hsl6,ht6,hu6⟩;have P6:Hid _:=hidS (And.intro hsl6 ht6);clear hsl6 hu6)
       |(go_at_call 141;(with_reducible refine (HC18.out (wr.alloc (.cells #[.int .i64 0,.string ⟨#[]⟩] 46)).drew ((Turned.alloc _ _ _).draw)).mono ?_);rintro e6 w6 ⟨a6,c6,rfl,hsl6,ht6,hu6⟩;have kb6:=boxed (w:=(wr.alloc (.cells #[.int .i64 0,.string ⟨#[]⟩] 46)).drew) (Go.Mine.heap_alloc_new wr _) hu6 id;have P6:Hid _:=hidS (And.intro hsl6 ht6);clear hsl6 hu6)
       |(go_at_call 142;(with_reducible refine (HOF.out (w6.alloc (.cells #[.int .i64 0,.string ⟨#[]⟩] 46)) a6 c6 (P6.out.2.new _) ((P6.out.1.turned (Turned.alloc (fun _=>False) _ _) fun _ _ z=>z).bound.widen fun b hb=>hb.2)).mono ?_);rintro e7 w7 ⟨rfl,ht7,u7⟩;have kb7:=boxed (Go.Mine.heap_alloc_new w6 _) u7 id;have kx0:=cell_of kb7 0 _ rfl;have kx1:=cell_of kb7 1 _ rfl;have kf0:=free_of kb7 0;have kf1:=free_of kb7 1;have kxl:=lt_of_block kb7;replace kb7:Hid _:=hidS kb7;have q7:Hid _:=hidS ht7;clear u7)
       |(go_at_call 142;(with_reducible refine (HOF.out w6 a6 c6 P6.out.2 P6.out.1).mono ?_);rintro e7 w7 ⟨rfl,ht7,u7⟩;have kb7:=boxed kb6 u7 id;clear kb6;have kx0:=cell_of kb7 0 _ rfl;have kx1:=cell_of kb7 1 _ rfl;have kf0:=free_of kb7 0;have kf1:=free_of kb7 1;have kxl:=lt_of_block kb7;replace kb7:Hid _:=hidS kb7;have q7:Hid _:=hidS ht7;clear u7)
       |(go_at_call 142;(with_reducible refine (HOF.out w6 a6 c6 P6.out.2 P6.out.1).mono ?_);rintro e7 w7 ⟨rfl,ht7,u7⟩;have q7:Hid _:=hidS ht7;clear u7))
     all_goals first
      |(obtain ⟨Wx,hWx⟩:∃ Wx,Wx=w7.alloc (.cells #[.int .i64 f1,.string f2] 46):=⟨_,rfl⟩;obtain ⟨bx,hbx⟩:∃ bx,bx=w7.heap.size:=⟨_,rfl⟩;have BX:Hid (BoxAt wr Wx bx f1 f2):=hidS (by rw [hWx,hbx];exact BoxAt.last q7.out);rw [←hWx,←hbx];clear hWx hbx)
      |(obtain ⟨Wx,hWx⟩:∃ Wx,Wx=(w7.setCell ⟨w6.heap.size,0,none⟩ (.int .i64 f1)).setCell ⟨w6.heap.size,1,none⟩ (.string f2):=⟨_,rfl⟩;obtain ⟨bx,hbx⟩:∃ bx,bx=w6.heap.size:=⟨_,rfl⟩;have BX:Hid (BoxAt wr Wx bx f1 f2):=hidS (by rw [hWx,hbx];exact BoxAt.set q7.out kb7.out P6.out.2.size);rw [←hWx,←hbx];clear hWx hbx kx0 kx1 kf0 kf1 kxl)
      |(obtain ⟨Wx,hWx⟩:∃ Wx,Wx=(w7.setCell ⟨wr.heap.size,0,none⟩ (.int .i64 f1)).setCell ⟨wr.heap.size,1,none⟩ (.string f2):=⟨_,rfl⟩;obtain ⟨bx,hbx⟩:∃ bx,bx=wr.heap.size:=⟨_,rfl⟩;have BX:Hid (BoxAt wr Wx bx f1 f2):=hidS (by rw [hWx,hbx];exact BoxAt.set q7.out kb7.out (Nat.le_refl _));rw [←hWx,←hbx];clear hWx hbx kx0 kx1 kf0 kf1 kxl)
     all_goals clear ht6 ht7
     all_goals
      go_wp2_with (first|(go_at_call 143;(with_reducible refine (HNX.out Wx BX.out.tu).mono ?_);rintro e8 w8 ⟨rfl,rfl⟩)|(at_builtin;refine wpList_append rfl _ _ 41 41 rfl (HAL.out _ (BX.out.tu.new _)) Tryz.underlying41 info3g rfl (by decide) rfl (.slice (some ⟨Wx.heap.size,0,none⟩) 1 1) rfl (src_one (P:=Tryz.prog) Tryz.underlying41 (.int .i64 G) rfl Wx) m2.out.1 m2.out.2 ?_;intro v8 w8 hsl8 ht8;obtain ⟨a8,c8,rfl,-,-⟩:=hsl8.value;have Y8:Hid _:=hidS (And.intro hsl8 ht8);clear hsl8 ht8))
      obtain ⟨S1',R8,hS1'⟩:=(HRO.out.keep (BX.out.tu.mono fun _ _ z=>z.elim)).pushAll (x:=G) (Turned.alloc (fun _=>False) Wx (.cells #[.int .i64 G] 3)) Y8.out.2 (by rw [←HN.out.1];exact Y8.out.1)
      have h1:=HPA.out.2.1
      have h2:=HPA.out.2.2
      have h3:=HT.out.size
      have hb1:=RO.out.b1
      have hb2:=RO.out.b2
      have t8:Turned (fun b=>Wc.heap.size≤b∨S1 b) Wc w8:=HT.out.comp ((BX.out.tu.new _).comp Y8.out.2 fun i _ z=>z.elim False.elim id) fun i _ z=>z
      have hxc:w8.heap[w2.heap.size]? = some (.cells #[.slice a2 j c2,.int .i64 c.tree] 55):=(((BX.out.tu.new _).comp Y8.out.2 fun i _ z=>z.elim False.elim id:Turned S1 wr w8).block w2.heap.size (by omega) (fun z=>by have:=hb1 _ z;omega)).trans (HXC.out wr HT.out)
      have hfx:w8.heap[bx]? = some (.cells #[.int .i64 f1,.string f2] 46):=(((Turned.alloc (fun _=>False) Wx (.cells #[.int .i64 G] 3)).comp Y8.out.2 fun i _ z=>z.elim False.elim id:Turned S1 Wx w8).block bx (lt_of_block BX.out.at_) (fun z=>by have:=hb1 _ z;have:=BX.out.new;omega)).trans BX.out.at_
      obtain ⟨g8,o8,k8,hv8,hg8,-,-,hcell8,-,hl8⟩:=Y8.out.1.opens (by omega)
      simp only [Value.slice.injEq]at hv8
      obtain ⟨rfl,-,-⟩:=hv8
      have y0:w8.cell? ⟨g8,o8+n,none⟩=some (.int .i64 G):=by
       rw [hcell8 n (by omega),List.getElem?_append_right (by rw [ic_len,←HN.out.1];exact Nat.le_refl _),ic_len,←HN.out.1,Nat.sub_self];rfl
      have y1:w8.cell? ⟨w2.heap.size,0,none⟩=some (.slice a2 j c2):=cell_of hxc 0 _ rfl
      have y2:w8.cell? ⟨w2.heap.size,1,none⟩=some (.int .i64 c.tree):=cell_of hxc 1 _ rfl
      have y3:w8.cell? ⟨bx,0,none⟩=some (.int .i64 f1):=cell_of hfx 0 _ rfl
      have y4:w8.cell? ⟨bx,1,none⟩=some (.string f2):=cell_of hfx 1 _ rfl
      have y5:=lt_of_block hxc
      have y6:=lt_of_block hfx
      have hnn:n<n+1:=Nat.lt_succ_self n
      have hni:(n:Int)<(n:Int)+1:=by omega
      have R8H:Hid (RoAt V w8 S1' S2 S3 (.slice (some ⟨g8,o8,none⟩) (n+1) c8) (.slice oa out.length oc) (all ++ [G]) out∧∀ b,S1' b→S1 b∨(Wx.alloc (.cells #[.int .i64 G] 3)).heap.size≤b):=⟨R8,hS1'⟩
      have T8H:Hid (Turned (fun b=>Wc.heap.size≤b∨S1 b) Wc w8):=t8
      obtain ⟨rvs,hrv,hrok,hrws⟩:=R8.ou
      have HRV:Hid (Sl w8 S2 48 5 (.slice oa out.length oc) rvs out.length∧(∀ r∈out,RwOk r)∧(∀ (i:Nat) (r:Rw),out[i]? = some r→∃ a cap,rvs[i * 5]? = some (.slice a r.par.length cap)∧rvs[i * 5+1]? = some (.int .i64 r.tree)∧rvs[i * 5+2]? = some (.int .i64 r.gen)∧rvs[i * 5+3]? = some (.int .i64 r.state)∧rvs[i * 5+4]? = some (.string r.bits)∧Ints w8 S3 a cap r.par)):=⟨hrv,hrok,hrws⟩
      have SRC:Hid _:=hidS (src48 (.slice a2 j c2) (.int .i64 c.tree) (.int .i64 G) (.int .i64 f1) (.string f2) (by simp [Value.oneCell']) w8)
      have m3:Hid (out.length+1≤maxLen∧(out.length+1) * 64≤140737488355328):=hidS (by have:=HRW.out.2.2.1;have:=HC.out;simp only [maxLen];omega)
      have hd2:¬ S2 w2.heap.size∧¬ S2 bx∧¬ S2 g8:=⟨fun z=>by have:=hb2 _ z;omega,fun z=>by have:=hb2 _ z;have:=BX.out.new;omega,fun z=>by
       have hs1:More S1 (Wx.alloc (.cells #[.int .i64 G] 3)) g8:=hg8
       rcases hs1 with q|q
       ·exact RO.out.d12 g8 q z
       ·have h7:=hb2 _ z;have h8:=BX.out.tu.size;have h9:=(Turned.alloc (fun _=>False) Wx (.cells #[.int .i64 G] 3)).size;omega⟩
      clear R8 hS1' t8 hxc hfx hcell8 hrv hrok hrws h1 h2 h3 hb1 hb2
      have HSL20:Hid (Sl (w8.alloc (.cells #[.slice a2 j c2,.int .i64 c.tree,.int .i64 G,.int .i64 f1,.string f2] 48)).drew S2 48 5 (.slice oa out.length oc) rvs out.length):=HRV.out.1.turned (T:=fun _=>False) ((Turned.alloc _ _ _).draw) fun _ _ z=>z
      have KS20:Hid (∀ W,Turned S2 w8 W→W.cell? ⟨w2.heap.size,0,none⟩=some (.slice a2 j c2)∧W.cell? ⟨w2.heap.size,1,none⟩=some (.int .i64 c.tree)∧W.cell? ⟨bx,0,none⟩=some (.int .i64 f1)∧W.cell? ⟨bx,1,none⟩=some (.string f2)∧W.cell? ⟨g8,o8+n,none⟩=some (.int .i64 G)):=(fun W t=>⟨cell_at y1 t hd2.1,cell_at y2 t hd2.1,cell_at y3 t hd2.2.1,cell_at y4 t hd2.2.1,cell_at y0 t hd2.2.2⟩:∀ W,Turned S2 w8 W→W.cell? ⟨w2.heap.size,0,none⟩=some (.slice a2 j c2)∧W.cell? ⟨w2.heap.size,1,none⟩=some (.int .i64 c.tree)∧W.cell? ⟨bx,0,none⟩=some (.int .i64 f1)∧W.cell? ⟨bx,1,none⟩=some (.string f2)∧W.cell? ⟨g8,o8+n,none⟩=some (.int .i64 G))
      clear hd2 y0 y1 y2 y3 y4
      go_region_held3 (fun W=>W.cell? ⟨w2.heap.size,0,none⟩=some (.slice a2 j c2)∧W.cell? ⟨w2.heap.size,1,none⟩=some (.int .i64 c.tree)∧W.cell? ⟨bx,0,none⟩=some (.int .i64 f1)∧W.cell? ⟨bx,1,none⟩=some (.string f2)∧W.cell? ⟨g8,o8+n,none⟩=some (.int .i64 G))
       (first|(exact KS20.out _ (Turned.drew _ _))|(exact KS20.out _ ((Turned.alloc _ _ _).draw))|(exact KS20.out _ (by assumption))|go_keep)
       (first
        |(at_builtin;refine wpList_append rfl _ _ 121 121 rfl HSL20.out Tryz.underlying121 info48r rfl (by decide) rfl (.slice (some ⟨w8.heap.size,0,none⟩) 1 1) rfl SRC.out.2.1 m3.out.1 m3.out.2 ?_;intro v9 w9 hsl9 ht9;obtain ⟨a9,c9,rfl,-,-⟩:=hsl9.value;have T9:Turned S2 w8 w9:=((Turned.alloc S2 w8 _).draw).trans ht9 (fun _ _ z=>z);have Y9:Hid _:=hidS (And.intro hsl9 ht9);clear hsl9 ht9)
        |(refine step_append (by rfl) _ _ 121 121 (by rfl) HSL20.out Tryz.underlying121 info48r rfl (by decide) (by rfl) (.slice (some ⟨w8.heap.size,0,none⟩) 1 1) (by rfl) SRC.out.2.1 m3.out.1 m3.out.2 ?_;intro v9 w9 hsl9 ht9;obtain ⟨a9,c9,rfl,-,-⟩:=hsl9.value;have T9:Turned S2 w8 w9:=((Turned.alloc S2 w8 _).draw).trans ht9 (fun _ _ z=>z);have Y9:Hid _:=hidS (And.intro hsl9 ht9);clear hsl9 ht9))
      have HE9:Hid (∀ nv,nv=((n+1:Nat):Int)→R1Rel V s g K known (Gk - 1) (.slice a9 (out.length+1) c9) (.slice (some ⟨g8,o8,none⟩) (n+1) c8) (.int .i64 nv) w9):=fun nv hnv=>by
       subst hnv
       have hGk:Gk - 1+1=Gk:=by have:=HN.out;omega
       have hcn:=HCC.out.2.1
       have hjl:=HP.out.1
       have z1:=HPA.out.2.1
       have z2:=HPA.out.2.2
       have z3:=T8H.out.size
       have z4:=TWR.out.size
       have z5:=HT.out.size
       have z6:=BX.out.tu.size
       have z7:=(Turned.alloc (fun _=>False) Wx (.cells #[.int .i64 G] 3)).size
       have hrw:(⟨c.par,c.tree,G,f1,f2⟩:Rw)=rowOf s g all.length G:=by
        unfold rowOf
        rw [←HN.out.1,hcn,←HF.out]
       have hgen:=genOf_ok HRW.out.1 c
       rw [←HGG.out]at hgen
       have hgd:=rowOf_good HGD.out.1 HGD.out.2.1 (n:=n) (gen:=G) (by have:=HC.out.1;omega) hgen
       have hok:RwOk ⟨c.par,c.tree,G,f1,f2⟩:=by
        rw [hrw,←HN.out.1]
        obtain ⟨q1,q2,q3,q4,q5,q6,q7⟩:=hgd
        have q8:=goodF_size q7
        have q9:(rowOf s g n G).state=1∨(rowOf s g n G).state=2:=makeF_state _ _
        exact ⟨⟨by omega,by omega⟩,⟨by omega,by omega⟩,⟨by omega,by omega⟩,by omega⟩
       have hpi:Ints w8 (fun b=>WL.heap.size≤b∧b<w2.heap.size) a2 c2 c.par:=by
        have h1:=HPA.out.1.turned T8H.out fun b hb z=>by
         rcases z with z|z
         ·omega
         ·have:=RO.out.b1 b z;omega
        rw [hjl]at h1
        obtain ⟨a',cap',hv,hi⟩:=sl_ic h1 fun x hx=>by
         have:=goodP_bound HCC.out.2.2.2.1 x hx
         have:=HN.out
         exact ⟨by omega,by omega⟩
        simp only [Value.slice.injEq]at hv
        obtain ⟨rfl,-,rfl⟩:=hv
        exact hi
       have hall:n=all.length:=HN.out.1
       rw [hall]at R8H ⊢
       refine row_next (r:=⟨c.par,c.tree,G,f1,f2⟩) R8H.out.1 HRV.out.1 HRV.out.2.1 HRV.out.2.2 ((Turned.alloc (fun _=>False) w8 _).draw) Y9.out.2 hok hpi (fun b hb=>⟨by omega,by omega,fun z=>?_,fun z=>by have:=RO.out.b2 b z;omega⟩) (by rw [←hjl];exact Y9.out.1) rfl (by rw [hGk];exact HRW.out.2.2.2) (fun x hx=>?_) (by rw [hGk];exact HRW.out.2.1) (by rw [hGk];exact HRW.out.2.2.1) (by rw [←hall,hcn];exact HGG.out) hrw
       ·rcases R8H.out.2 b z with q | q
        ·have:=RO.out.b1 b q;omega
        ·omega
       ·rcases List.mem_append.1 hx with q | q
        ·exact HRW.out.1 x q
        ·rw [List.mem_singleton]at q;subst q;exact hgen
      go_wp2
      go_roundg (Gk - 1)
      case measure=>have:=HN.out;omega
      case rel=>exact HE9.out _ (by have:=HN.out;simp [wrap64];omega)
  ·have hn : n = C := by have := HN.out; omega
   have hg0:gk=0:=by have:=HN.out;omega
   have HO:Hid (out=rowsX s g K known):=by
    have:=HRW.out.2.1
    rw [hg0,rowsX,List.append_nil]at this
    exact this
   clear hlt
   go_wp2_with (go_at_call 30;(with_reducible refine (HCM.out wr TWR.out).mono ?_);rintro e w2 ⟨rfl,rfl⟩)
   rw [HZ2.out]
   have hz:=TV.out.2
   refine ⟨_,S2,S3,rfl,by rw [←HO.out];exact RO.out.ou,fun b hb=>by have:=RO.out.b2 b hb;omega,fun b hb=>by have:=RO.out.b3 b hb;omega,fun b hb=>hb.elim (fun q=>(RO.out.b2 b q).2) fun q=>(RO.out.b3 b q).2,TV.out.1.comp TWR.out fun i hi z=>z.elim id fun z=>by omega⟩
end Go.Proofs.YtofcogekgcgjhaaGreatDoor
