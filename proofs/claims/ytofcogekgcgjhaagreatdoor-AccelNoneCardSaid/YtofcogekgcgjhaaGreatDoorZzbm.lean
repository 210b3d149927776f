/- Packed. -/
import Derived.Test.YtofcogekgcgjhaaGreatDoorZzbk
import Derived.Test.YtofcogekgcgjhaaGreatDoorZzbl
import Derived.Test.YtofcogekgcgjhaaGreatDoorZzbi
set_option linter.unusedVariables false
set_option linter.unusedSimpArgs false
set_option maxRecDepth 100000
namespace Go.Proofs.YtofcogekgcgjhaaGreatDoor
open Go.RowKit Go.Mine Go.Mine.Ac
theorem diffC_path:∀ (a b:List Ent) (x:Dc),x∈diffC a b→(∃ y∈a,x.path=y.1)∨∃ y∈b,x.path=y.1:=by
 intro a b
 fun_induction diffC a b with
 |case1 b=>intro x hx;obtain ⟨y,hy,rfl⟩:=List.mem_map.1 hx;exact .inr ⟨y,hy,rfl⟩
 |case2 x0 a=>intro x hx;obtain ⟨y,hy,rfl⟩:=List.mem_map.1 hx;exact .inl ⟨y,hy,rfl⟩
 |case3 x0 a y b h ih=>
  intro x hx
  rcases List.mem_cons.1 hx with rfl|hx
  ·exact .inl ⟨x0,List.mem_cons_self,rfl⟩
  ·exact (ih x hx).imp (fun ⟨z,hz,e⟩=>⟨z,List.mem_cons_of_mem _ hz,e⟩) id
 |case4 x0 a y b h1 h2 ih=>
  intro x hx
  rcases List.mem_cons.1 hx with rfl|hx
  ·exact .inr ⟨y,List.mem_cons_self,rfl⟩
  ·exact (ih x hx).imp id fun ⟨z,hz,e⟩=>⟨z,List.mem_cons_of_mem _ hz,e⟩
 |case5 x0 a y b h1 h2 h3 ih=>
  intro x hx
  exact (ih x hx).imp (fun ⟨z,hz,e⟩=>⟨z,List.mem_cons_of_mem _ hz,e⟩) fun ⟨z,hz,e⟩=>⟨z,List.mem_cons_of_mem _ hz,e⟩
 |case6 x0 a y b h1 h2 h3 ih=>
  intro x hx
  rcases List.mem_cons.1 hx with rfl|hx
  ·exact .inl ⟨x0,List.mem_cons_self,rfl⟩
  ·exact (ih x hx).imp (fun ⟨z,hz,e⟩=>⟨z,List.mem_cons_of_mem _ hz,e⟩) fun ⟨z,hz,e⟩=>⟨z,List.mem_cons_of_mem _ hz,e⟩
theorem dcells_get:∀ {l:List Dc} {i:Nat} {x:Dc},l[i]? = some x→(dcells l)[i * 3]? = some (.string x.path)∧(dcells l)[i * 3+1]? = some (.int .u32 (x.old:Nat))∧(dcells l)[i * 3+2]? = some (.int .u32 (x.new:Nat))
 | [],_,_,h=>by simp at h
 |y :: t,0,x,h=>by simp at h;subst h;simp [dcells]
 |y :: t,i+1,x,h=>by
  have:=dcells_get (l:=t) (i:=i) (by simpa using h)
  simpa [dcells,Nat.add_mul,Nat.add_right_comm] using this
def OfRel (w1:World) (l:List Dc) (g:Nat) (pv iv:Value) (wr:World):Prop:=
 ∃ j:Nat,j+g=l.length∧iv = .int .i64 (j:Nat)∧Sl wr (fun b=>w1.heap.size≤b) 9 1 pv (((l.take j).map (·.path)).map Value.string) j∧Turned (fun b=>w1.heap.size≤b) w1 wr
set_option maxHeartbeats 4000000 in
theorem bof_any (s:Stg) {w:World} {S:Nat→Prop} {va vb:Value} {ta tb:List Ent} (hsd:s.seed<4294967296) (ha:Sl w S 96 2 va (ecells ta) ta.length) (hb:Sl w S 96 2 vb (ecells tb) tb.length) (hS:∀ b,S b→b<w.heap.size) (na:∀ x∈ta,(x.2≠0∧x.2<4294967296)∧x.1.size≤1000000000) (nb:∀ x∈tb,(x.2≠0∧x.2<4294967296)∧x.1.size≤1000000000)
  (la:ta.length≤100000) (lb:tb.length≤100000):Calls Tryz.prog 142 #[stgv s,va,vb] w (MkPost w s (diffP ta tb)):=by
 obtain ⟨Z,hZ⟩:∃ Z,Z=MkPost w s (diffP ta tb):=⟨_,rfl⟩
 have HZ:Hid (Z=MkPost w s (diffP ta tb)):=hZ
 rw [←hZ]
 obtain ⟨V,hV⟩:∃ V,V=(w.alloc (.cells #[.int .i64 s.h,.int .i64 s.p,.int .i64 s.m,.int .u32 (s.seed:Nat)] 24)).alloc (.cells #[.int .i64 0,.string ⟨#[]⟩] 46):=⟨_,rfl⟩
 have HVV:Hid (V=(w.alloc (.cells #[.int .i64 s.h,.int .i64 s.p,.int .i64 s.m,.int .u32 (s.seed:Nat)] 24)).alloc (.cells #[.int .i64 0,.string ⟨#[]⟩] 46)):=hV
 obtain ⟨tV,xS,xF⟩:=two_boxes (w:=w) (.cells #[.int .i64 s.h,.int .i64 s.p,.int .i64 s.m,.int .u32 (s.seed:Nat)] 24) (.cells #[.int .i64 0,.string ⟨#[]⟩] 46)
 rw [←hV]at tV xS xF
 have TV:Hid (Turned (fun _=>False) w V):=tV
 have HBX:Hid (∀ (W:World) (T:Nat→Prop),Turned T V W→¬ T w.heap.size→W.cell? ⟨w.heap.size,0,none⟩=some (.int .i64 s.h)∧W.cell? ⟨w.heap.size,1,none⟩=some (.int .i64 s.p)∧W.cell? ⟨w.heap.size,2,none⟩=some (.int .i64 s.m)∧W.cell? ⟨w.heap.size,3,none⟩=some (.int .u32 (s.seed:Nat))∧w.heap.size<W.heap.size):=fun W T q z=>by
  have ha:=boxed xS q z
  exact ⟨cell_of ha 0 _ rfl,cell_of ha 1 _ rfl,cell_of ha 2 _ rfl,cell_of ha 3 _ rfl,lt_of_block ha⟩
 have HFX:Hid (∀ (W:World) (T:Nat→Prop),Turned T V W→¬ T (w.heap.size+1)→W.heap[w.heap.size+1]? = some (.cells #[.int .i64 0,.string ⟨#[]⟩] 46)):=fun W T q z=>boxed xF q z
 have hlt1:=lt_of_block xF
 have HD:Hid (Calls Tryz.prog 231 #[va,vb] V (DfPost V ta tb)):=tdiff_any (ha.turned tV fun _ _ z=>z) (hb.turned tV fun _ _ z=>z) (fun b hb=>Nat.lt_of_lt_of_le (hS b hb) tV.size) (fun x hx=>(na x hx).1) (fun x hx=>(nb x hx).1) (by omega) (by omega)
 have HP:Hid (diffP ta tb=(diffC ta tb).map (·.path)∧(diffC ta tb).length≤200000∧∀ x∈diffC ta tb,x.path.size≤1000000000):=by
  refine ⟨diffP_eq ta tb,by have:=diffC_len ta tb;omega,fun x hx=>?_⟩
  rcases diffC_path ta tb x hx with ⟨y,hy,e⟩|⟨y,hy,e⟩
  ·rw [e];exact (na y hy).2
  ·rw [e];exact (nb y hy).2
 have HSD:Hid (s.seed<4294967296∧w.heap.size+1<V.heap.size):=⟨hsd,hlt1⟩
 unfold DfPost at HD
 generalize diffC ta tb=l at *
 obtain ⟨L,hL⟩:∃ L,L=l.length:=⟨_,rfl⟩
 have HL:Hid (L=l.length∧L≤200000):=⟨hL,by rw [hL];exact HP.out.2.1⟩
 rw [←hL]at HD
 clear hL
 clear hZ hV tV xS xF ha hb hS na nb la lb hsd hlt1
 go_enter Tryz.func142,Tryz.ntmps142
 go_wp2_with fail
 rw [←HVV.out]
 go_wp2_with (go_at_call 231;(with_reducible refine HD.out.mono ?_);rintro e w1 ⟨v1,rfl,hsl,q⟩;obtain ⟨a1,c1,rfl,-,-⟩:=hsl.value;have P1:Hid _:=hidS (And.intro hsl q);clear hsl q)
 have B0:Hid (OfRel w1 l L (.slice none 0 0) (.int .i64 0) w1):=⟨0,by have:=HL.out;omega,rfl,by simpa using Sl.nil _ _ _ _,Turned.refl _ _⟩
 go_loopg [8,15] L (fun g pv iv wr=>OfRel w1 l g pv iv wr)
 case atStart=>exact B0.out
 case round=>
  clear B0
  obtain ⟨j,hjg,rfl,hsl,ht⟩:=hrel
  have G:Hid (j+gk=l.length):=hjg
  have HT:Hid (Turned (fun b=>w1.heap.size≤b) w1 wr):=ht
  obtain ⟨pa,pc,rfl,-,-⟩:=hsl.value
  have HSL:Hid _:=hidS hsl
  clear hjg ht hsl
  by_cases hlt:j<L
  ·obtain ⟨x, hx⟩ : ∃ x, l[j]? = some x := ⟨_, List.getElem?_eq_getElem (by rw [← HL.out.1]; exact hlt)⟩
   have HX:Hid (l[j]? = some x):=hx
   obtain ⟨g,off,cap2,hva,hgs,-,-,hcell,-,hgl⟩:=P1.out.1.opens (by omega)
   simp only [Value.slice.injEq]at hva
   obtain ⟨rfl,-,-⟩:=hva
   obtain ⟨e0,e1,e2⟩:=dcells_get hx
   have hj3:j * 3+3≤L * 3:=by omega
   have hng:¬ w1.heap.size≤g:=by omega
   have c0:wr.cell? ⟨g,off+j * 3,none⟩=some (.string x.path):=cell_at (by rw [hcell _ (by omega)];exact e0) HT.out hng
   have c1:wr.cell? ⟨g,off+j * 3+1,none⟩=some (.int .u32 (x.old:Nat)):=cell_at (by rw [Nat.add_assoc,hcell _ (by omega)];exact e1) HT.out hng
   have c2:wr.cell? ⟨g,off+j * 3+2,none⟩=some (.int .u32 (x.new:Nat)):=cell_at (by rw [Nat.add_assoc,hcell _ (by omega)];exact e2) HT.out hng
   have hgr:g<wr.heap.size:=Nat.lt_of_lt_of_le hgl HT.out.size
   obtain ⟨xp,xo,xn⟩:=x
   dsimp only at c0 c1 c2
   have m1:Hid (j+1≤maxLen∧(j+1) * 16≤140737488355328):=hidS (by have:=HL.out;simp only [maxLen];omega)
   have T1:Hid (Turned (fun _=>False) wr ((wr.alloc (.cells #[.string xp,.int .u32 (xo:Nat),.int .u32 (xn:Nat)] 297)).alloc (.cells #[.string xp] 9))):=(Turned.alloc _ _ _).new _
   have SRC:Hid (Src Tryz.prog 1 84 (.slice (some ⟨wr.heap.size+1,0,none⟩) 1 1) 1 [.string xp] ((wr.alloc (.cells #[.string xp,.int .u32 (xo:Nat),.int .u32 (xn:Nat)] 297)).alloc (.cells #[.string xp] 9))):=hidS (by
    have:=src_one (P:=Tryz.prog) Tryz.underlying84 (.string xp) rfl (wr.alloc (.cells #[.string xp,.int .u32 (xo:Nat),.int .u32 (xn:Nat)] 297))
    simpa using this)
   clear hx hcell hgl e0 e1 e2 hgs hj3 hng
   go_wp2_with (at_builtin;refine wpList_append rfl _ _ 84 84 rfl (HSL.out.turned (T:=fun _=>False) T1.out (fun _ _ q=>q)) Tryz.underlying84 infoS9 rfl (by decide) rfl (.slice (some ⟨wr.heap.size+1,0,none⟩) 1 1) rfl SRC.out m1.out.1 m1.out.2 ?_;intro v5 w5 hsl5 ht5;obtain ⟨a5,c5,rfl,-,-⟩:=hsl5.value;have Y:Hid _:=hidS (And.intro hsl5 ht5);clear hsl5 ht5)
   go_roundg (gk - 1)
   case measure=>have:=G.out;have:=HL.out;omega
   case rel=>
    refine ⟨j+1,by have:=G.out;have:=HL.out;omega,by have:=HL.out;simp [wrap64];omega,?_,HT.out.trans (T1.out.comp Y.out.2 fun i hi z=>z.elim False.elim id) fun _ _ z=>z⟩
    have e1:l.take (j+1)=l.take j ++ [⟨xp,xo,xn⟩]:=by rw [List.take_add_one,HX.out];rfl
    rw [e1,List.map_append,List.map_append]
    refine Y.out.1.widen fun b hb=>?_
    have h1:=HT.out.size
    have h2:=T1.out.size
    rcases hb with z|z
    ·exact z
    ·omega
  ·have hj : j = L := by have := G.out; have := HL.out.1; omega
   have HE:Hid (l.take j=l):=List.take_of_length_le (by have:=HL.out.1;omega)
   rw [HE.out]at HSL
   obtain ⟨F,k,hmk⟩:∃ (F:Flt) (k:Int),mkV s (l.map (·.path)) = .tuple #[fltv F,.int .i64 k]:=by
    unfold mkV
    split
    ·exact ⟨_,_,rfl⟩
    ·exact ⟨_,_,rfl⟩
   have hlen:(l.map (·.path)).length=j:=by rw [List.length_map];have:=HL.out.1;omega
   have tV:Turned (fun b=>w1.heap.size≤b) V wr:=(P1.out.2.mono fun _ _ z=>z.elim).trans HT.out fun _ _ z=>z
   have hz1:=P1.out.2.size
   have hz2:=HSD.out.2
   have HM:Hid (Calls Tryz.prog 232 #[.agg #[.int .i64 s.h,.int .i64 s.p,.int .i64 s.m,.int .u32 (s.seed:Nat)],.slice pa j pc] wr (MkPost wr s (l.map (·.path)))):=hidS (by
    have:=bmake_any s (l.map (·.path)) wr (S:=fun b=>w1.heap.size≤b) (a:=pa) (cap:=pc) HSD.out.1 (by rw [hlen];exact HSL.out) (by rw [hlen];have:=HL.out.2;omega) fun x hx=>by
     obtain ⟨y,hy,rfl⟩:=List.mem_map.1 hx
     exact HP.out.2.2 y hy
    rw [hlen]at this
    exact this)
   unfold MkPost at HM
   rw [hmk]at HM
   have HMK:Hid (mkV s (l.map (·.path)) = .tuple #[fltv F,.int .i64 k]):=hmk
   obtain ⟨v0,v1,v2,v3,v4⟩:=HBX.out wr _ tV (by omega)
   have HFW:Hid (∀ W,Turned (fun _=>False) wr W→W.heap[w.heap.size+1]? = some (.cells #[.int .i64 0,.string ⟨#[]⟩] 46)):=fun W t=>HFX.out W _ (tV.trans t fun _ _ z=>z.elim) (by omega)
   have HTW:Hid (Turned (fun _=>False) w wr):=(TV.out.trans P1.out.2 fun _ _ z=>z).comp HT.out fun i hi z=>z.elim id fun z=>by have:=TV.out.size;omega
   clear hlt hmk hlen tV hz1 hz2 HE
   subst hj
   go_wp2_with (go_at_call 232;(with_reducible refine HM.out.mono ?_);rintro e w2 ⟨rfl,q⟩;have k0:=HFW.out w2 q;have f0:=free_of k0 0;have f1:=free_of k0 1;have c0:w2.cell? ⟨w.heap.size+1,0,none⟩=some (.int .i64 0):=cell_of k0 0 _ rfl;have c1:w2.cell? ⟨w.heap.size+1,1,none⟩=some (.string ⟨#[]⟩):=cell_of k0 1 _ rfl;have kl:=lt_of_block k0;clear k0;replace q:Hid _:=hidS q)
   refine bodyPost_ret (v:=.tuple #[fltv F,.int .i64 k]) (by simp [results,Tryz.results142,go_sem,c0,c1,kl,f0,f1]) rfl ?_
   rw [HZ.out]
   exact ⟨by rw [HP.out.1,HMK.out],((HTW.out.trans q.out fun _ _ z=>z).fresh (Nat.le_succ _) _).fresh (Nat.le_succ _) _⟩
end Go.Proofs.YtofcogekgcgjhaaGreatDoor
