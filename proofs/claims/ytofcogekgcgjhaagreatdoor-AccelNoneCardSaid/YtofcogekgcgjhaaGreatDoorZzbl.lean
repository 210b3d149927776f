/- Packed. -/
import Derived.Lib.Strings
import Derived.Lib.Walk
import Derived.Lib.Bytealg
import Derived.Test.YtofcogekgcgjhaaGreatDoorZzaz
import Derived.Deep.AppendSrc
import Derived.Deep.LoopGhost
set_option linter.unusedVariables false
set_option linter.unusedSimpArgs false
set_option maxRecDepth 100000
namespace Go.Proofs.YtofcogekgcgjhaaGreatDoor
open Go.RowKit Go.Mine Go.Mine.Ac
set_option maxHeartbeats 1000000 in
theorem cmpStr_any (a b:ByteArray) (w:World) :
  Calls Tryz.prog 356 #[.string a,.string b] w fun e w'=>e = .returned (.int .i64 (Lib.compareBytes a.data.toList b.data.toList))∧w'=w:=by
 go_enter Tryz.func356,Tryz.ntmps356
 go_wp2
 rw [run_callFunc_extern Tryz.func366 (by kernel_rfl) (by kernel_rfl) (by kernel_rfl) (e:=Extern.BytealgCompare.compare) (by kernel_rfl),Lib.run_compareString]
 simp only [Result.andThen]
 rw [Oper.upon_value]
 go_wp2
 go_ret
 exact ⟨rfl,rfl⟩
set_option maxHeartbeats 1000000 in
theorem strCmp_any (a b:ByteArray) (w:World) :
  Calls Tryz.prog 339 #[.string a,.string b] w fun e w'=>e = .returned (.int .i64 (Lib.compareBytes a.data.toList b.data.toList))∧w'=w:=by
 go_enter Tryz.func339,Tryz.ntmps339
 go_wp2_with (go_at_call 356;refine (cmpStr_any _ _ _).mono ?_;rintro e w' ⟨rfl,rfl⟩)
 go_ret
 exact ⟨rfl,rfl⟩
def ordB (a b:ByteArray):Int:=Lib.compareBytes a.data.toList b.data.toList
theorem cmp_cases:∀ (a b:List UInt8),(Lib.compareBytes a b = -1∧Op.bytesLess a b=true∧Op.bytesLess b a=false)∨(Lib.compareBytes a b=0∧a=b∧Op.bytesLess a b=false)∨(Lib.compareBytes a b=1∧Op.bytesLess b a=true∧Op.bytesLess a b=false)
 | [],[]=>.inr (.inl ⟨rfl,rfl,by simp [Op.bytesLess]⟩)
 | [],_ :: _=>.inl ⟨rfl,by simp [Op.bytesLess],by simp [Op.bytesLess]⟩
 |_ :: _,[]=>.inr (.inr ⟨rfl,by simp [Op.bytesLess],by simp [Op.bytesLess]⟩)
 |a :: x,b :: y=>by
  have ih:=cmp_cases x y
  simp only [Lib.compareBytes,Op.bytesLess]
  by_cases h1:a<b
  ·have h2 : ¬ b < a := fun q => by have := UInt8.lt_iff_toNat_lt.1 h1; have := UInt8.lt_iff_toNat_lt.1 q; omega
   have h3:(b == a)=false:=by
    rw [beq_eq_false_iff_ne]
    rintro rfl
    exact h2 h1
   left
   simp [h1,h2,h3]
  ·by_cases h2 : b < a
   ·have h3 : (a == b) = false := by
     rw [beq_eq_false_iff_ne]
     rintro rfl
     exact h1 h2
    right;right
    simp [h1,h2,h3]
   ·obtain rfl : a = b := by
     apply UInt8.toNat_inj.1
     have q1:¬ a.toNat<b.toNat:=fun q=>h1 (UInt8.lt_iff_toNat_lt.2 q)
     have q2:¬ b.toNat<a.toNat:=fun q=>h2 (UInt8.lt_iff_toNat_lt.2 q)
     omega
    rcases ih with ⟨e1,e2,e3⟩|⟨e1,e2,e3⟩|⟨e1,e2,e3⟩
    ·left;simp [h1,e1,e2,e3]
    ·right;left;subst e2;simp [h1,e1,e3]
    ·right;right;simp [h1,e1,e2,e3]
theorem ordB_cases (a b:ByteArray):(ordB a b = -1∧ltB a b=true∧ltB b a=false∧a≠b)∨(ordB a b=0∧a=b∧ltB a b=false∧ltB b a=false)∨(ordB a b=1∧ltB b a=true∧ltB a b=false∧a≠b):=by
 have h:=cmp_cases a.data.toList b.data.toList
 unfold ordB ltB
 rw [ByteArray.toList_eq,ByteArray.toList_eq]
 have self:∀ l:List UInt8,Op.bytesLess l l=false:=fun l=>by
  induction l with
  |nil=>simp [Op.bytesLess]
  |cons x l ih=>simp [Op.bytesLess,ih]
 rcases h with ⟨h1,h2,h3⟩|⟨h1,h2,h3⟩|⟨h1,h2,h3⟩
 ·refine .inl ⟨h1, h2, h3, ?_⟩
  rintro rfl
  rw [self]at h2;simp at h2
 ·have : a = b := ByteArray.ext (Array.toList_inj.1 h2)
  subst this
  exact .inr (.inl ⟨h1,rfl,h3,h3⟩)
 ·refine .inr (.inr ⟨h1, h2, h3, ?_⟩)
  rintro rfl
  rw [self]at h2;simp at h2
theorem byPath_any (x:Ent) (path:ByteArray) (w:World):Calls Tryz.prog 307 #[.agg #[.string x.1,.int .u32 (x.2:Nat)],.string path] w fun e w'=>e = .returned (.int .i64 (ordB x.1 path))∧Turned (fun _=>False) w w':=by
 have hc:=fun W=>strCmp_any x.1 path W
 have hb:ordB x.1 path=Lib.compareBytes x.1.data.toList path.data.toList:=rfl
 rw [hb]
 obtain ⟨x1,x2⟩:=x
 dsimp only at hc ⊢
 clear hb
 generalize Lib.compareBytes x1.data.toList path.data.toList=r at *
 have t:=Turned.alloc (fun _=>False) w (.cells #[.string x1,.int .u32 (x2:Nat)] 96)
 replace t:Hid _:=hidS t
 go_enter Tryz.func307,Tryz.ntmps307
 go_wp2_with (go_at_call 339;(with_reducible refine (hc _).mono ?_);rintro e w' ⟨rfl,rfl⟩)
 go_ret
 exact ⟨rfl,t.out⟩
def dcells (l:List Dc):List Value:=l.flatMap fun x=>[.string x.path,.int .u32 (x.old:Nat),.int .u32 (x.new:Nat)]
theorem dcells_snoc (l:List Dc) (x:Dc):dcells (l ++ [x])=dcells l ++ [.string x.path,.int .u32 (x.old:Nat),.int .u32 (x.new:Nat)]:=by simp [dcells]
theorem info297:(Tryz.prog.info? 297).map (fun i=>(i.zero,i.size,i.bytes))=some (some (.agg #[.string ⟨#[]⟩,.int .u32 0,.int .u32 0]),3,24):=by kernel_rfl
theorem diffC_lt {x y:Ent} {a b:List Ent} (h:ltB x.1 y.1=true):diffC (x :: a) (y :: b)=⟨x.1,x.2,0⟩ :: diffC a (y :: b):=by rw [diffC,if_pos h]
theorem diffC_gt {x y:Ent} {a b:List Ent} (h0:ltB x.1 y.1=false) (h:ltB y.1 x.1=true):diffC (x :: a) (y :: b)=⟨y.1,0,y.2⟩ :: diffC (x :: a) b:=by rw [diffC,if_neg (by rw [h0];decide),if_pos h]
theorem diffC_same {x y:Ent} {a b:List Ent} (h0:ltB x.1 y.1=false) (h:ltB y.1 x.1=false) (e:x.2=y.2):diffC (x :: a) (y :: b)=diffC a b:=by rw [diffC,if_neg (by rw [h0];decide),if_neg (by rw [h];decide),if_pos e]
theorem diffC_turned {x y:Ent} {a b:List Ent} (h0:ltB x.1 y.1=false) (h:ltB y.1 x.1=false) (e:x.2≠y.2):diffC (x :: a) (y :: b)=⟨x.1,x.2,y.2⟩ :: diffC a b:=by rw [diffC,if_neg (by rw [h0];decide),if_neg (by rw [h];decide),if_neg e]
theorem diffC_right {y:Ent} {b:List Ent}:diffC [] (y :: b)=⟨y.1,0,y.2⟩ :: diffC [] b:=by simp [diffC]
theorem diffC_left {x:Ent} {a:List Ent}:diffC (x :: a) []=⟨x.1,x.2,0⟩ :: diffC a []:=by
 cases a with
 |nil=>simp [diffC]
 |cons z a=>simp [diffC]
theorem diffC_none:diffC [] []=[]:=by simp [diffC]
theorem sl_first {w:World} {S:Nat→Prop} {v:Value} {x:Ent} {a:List Ent} (h:Sl w S 96 2 v (ecells (x :: a)) (x :: a).length):∃ g off cap,v = .slice (some ⟨g,off,none⟩) (a.length+1) cap∧S g∧g<w.heap.size∧w.cell? ⟨g,off,none⟩=some (.string x.1)∧w.cell? ⟨g,off+1,none⟩=some (.int .u32 (x.2:Nat)) ∧
  ∃ a' c',(∀ w',(Instr.slice 65 (.slice (some ⟨g,off,none⟩) (a.length+1) cap) (some (.int .i64 1)) none none).run Tryz.prog w' = .ok (.slice a' a.length c') w')∧Sl w S 96 2 (.slice a' a.length c') (ecells a) a.length:=by
 obtain ⟨v',h1,h2⟩:=h.run_from (P:=Tryz.prog) Tryz.underlying65 infoC96 1 .i64 1 rfl (by simp)
 have e1:(ecells (x :: a)).drop (1 * 2)=ecells a:=by simp [ecells]
 have e2:(x :: a).length - 1=a.length:=by simp
 rw [e1,e2]at h2
 obtain ⟨g,off,cap,rfl,hS,-,-,hcell,-,hlt⟩:=h.opens (by simp)
 obtain ⟨a',c',rfl,-,-⟩:=h2.value
 have c0:=hcell 0 (by simp)
 have c1:=hcell 1 (by simp only [List.length_cons];omega)
 exact ⟨g,off,cap,rfl,hS,hlt,c0,c1,a',c',h1,h2⟩
def DfRel (w:World) (S:Nat→Prop) (ta tb:List Ent) (g:Nat) (av bv lv:Value) (wr:World):Prop:=
 ∃ (a b:List Ent) (l:List Dc),a.length+b.length=g∧a.length≤ta.length∧b.length≤tb.length∧(∀ x∈a,x.2≠0∧x.2<4294967296)∧(∀ x∈b,x.2≠0∧x.2<4294967296)∧diffC ta tb=l ++ diffC a b ∧
  Sl wr S 96 2 av (ecells a) a.length∧Sl wr S 96 2 bv (ecells b) b.length∧Sl wr (fun b=>w.heap.size≤b) 297 3 lv (dcells l) l.length∧Turned (fun b=>w.heap.size≤b) w wr
def DfPost (w:World) (ta tb:List Ent) (e:Ending) (w' : World):Prop:=
 ∃ v,e = .returned v∧Sl w' (fun b=>w.heap.size≤b) 297 3 v (dcells (diffC ta tb)) (diffC ta tb).length∧Turned (fun _=>False) w w'
theorem src_two (w:World) (o:Obj) (a b c:Value) (h1:∀ u∈[a,b,c],u.oneCell'=true):Src Tryz.prog 3 294 (.slice (some ⟨w.heap.size+1,0,none⟩) 1 1) 1 [a,b,c] ((w.alloc o).alloc (.cells #[a,b,c] 297))∧Src Tryz.prog 3 294 (.slice (some ⟨w.heap.size+1,0,none⟩) 1 1) 1 [a,b,c] ((w.alloc o).alloc (.cells #[a,b,c] 297)).drew:=by
 have e:(w.alloc o).heap.size=w.heap.size+1:=by simp
 constructor
 ·have := src_new (P := Tryz.prog) 297 Tryz.underlying294 [a, b, c] h1 (w.alloc o)
  rw [e]at this;exact this
 ·have := src_newD (P := Tryz.prog) 297 Tryz.underlying294 [a, b, c] h1 (w.alloc o)
  rw [e]at this;exact this
theorem src_at {w2 U:World} (hz:U.heap.size=w2.heap.size) (a b c:Value) (h1:∀ u∈[a,b,c],u.oneCell'=true):Src Tryz.prog 3 294 (.slice (some ⟨w2.heap.size,0,none⟩) 1 1) 1 [a,b,c] (U.alloc (.cells #[a,b,c] 297))∧Src Tryz.prog 3 294 (.slice (some ⟨w2.heap.size,0,none⟩) 1 1) 1 [a,b,c] (U.alloc (.cells #[a,b,c] 297)).drew∧Src Tryz.prog 3 294 (.slice (some ⟨w2.heap.size,0,none⟩) 1 1) 1 [a,b,c] (U.alloc (.cells #[a,b,c] 297)).drew.drew:=by
 refine ⟨?_,?_,?_⟩
 ·have := src_new (P := Tryz.prog) 297 Tryz.underlying294 [a, b, c] h1 U
  rw [hz]at this;exact this
 ·have := src_newD (P := Tryz.prog) 297 Tryz.underlying294 [a, b, c] h1 U
  rw [hz]at this;exact this
 ·rw [← hz]
  refine Src.ofSlice _ Tryz.underlying294 ⟨U.heap.size,0,none⟩ 1 1 [a,b,c] rfl (fun j u hj=>?_) h1
  rw [Addr.add_lit,Nat.zero_add]
  exact cell_of (w:=(U.alloc (.cells #[a,b,c] 297)).drew.drew) (Go.Mine.heap_alloc_new U _) j u (by simpa using hj)
theorem set_new {wr V w2 U:World} {r:Nat} (tV:Turned (fun _=>False) wr V) (q:Turned (fun _=>False) V w2) (t:Turned (· = r) w2 U) (hr:wr.heap.size≤r):Turned (fun _=>False) wr U:=
 (tV.trans q fun _ _ z=>z).comp t fun i hi z=>z.elim id fun z=>by omega
theorem df_next {w wr W w5:World} {S:Nat→Prop} {ta tb a b:List Ent} {l:List Dc} {x:Dc} {g nl:Nat} {av bv v' : Value} (hS:∀ b,S b→b<w.heap.size) (ht:Turned (fun b=>w.heap.size≤b) w wr) (t1:Turned (fun _=>False) wr W) (t5:Turned (fun b=>w.heap.size≤b) W w5)
  (hs:Sl w5 (More (fun b=>w.heap.size≤b) W) 297 3 v' (dcells l ++ [.string x.path,.int .u32 (x.old:Nat),.int .u32 (x.new:Nat)]) (nl+1)) (hnl:nl=l.length) (hg:a.length+b.length=g) (la:a.length≤ta.length) (lb:b.length≤tb.length)
  (na:∀ x∈a,x.2≠0∧x.2<4294967296) (nb:∀ x∈b,x.2≠0∧x.2<4294967296) (hd:diffC ta tb=(l ++ [x]) ++ diffC a b) (sa:Sl wr S 96 2 av (ecells a) a.length) (sb:Sl wr S 96 2 bv (ecells b) b.length):DfRel w S ta tb g av bv v' w5:=by
 have hz:=ht.size
 have h1:=t1.size
 have T:Turned (fun b=>w.heap.size≤b) wr w5:=t1.comp t5 fun i _ q=>q.elim False.elim id
 refine ⟨a,b,l ++ [x],hg,la,lb,na,nb,hd,sa.turned T fun b hb q=>by have:=hS b hb;omega,sb.turned T fun b hb q=>by have:=hS b hb;omega,?_,ht.trans T fun _ _ q=>q⟩
 rw [dcells_snoc,List.length_append,←hnl]
 refine hs.widen fun b hb=>?_
 rcases hb with q|q
 ·exact q
 ·omega
theorem df_skip {w wr W:World} {S:Nat→Prop} {ta tb a b:List Ent} {l:List Dc} {g:Nat} {av bv lv:Value} (hS:∀ b,S b→b<w.heap.size) (ht:Turned (fun b=>w.heap.size≤b) w wr) (t1:Turned (fun _=>False) wr W)
  (sl:Sl wr (fun b=>w.heap.size≤b) 297 3 lv (dcells l) l.length) (hg:a.length+b.length=g) (la:a.length≤ta.length) (lb:b.length≤tb.length)
  (na:∀ x∈a,x.2≠0∧x.2<4294967296) (nb:∀ x∈b,x.2≠0∧x.2<4294967296) (hd:diffC ta tb=l ++ diffC a b) (sa:Sl wr S 96 2 av (ecells a) a.length) (sb:Sl wr S 96 2 bv (ecells b) b.length):DfRel w S ta tb g av bv lv W:=
 ⟨a,b,l,hg,la,lb,na,nb,hd,sa.turned t1 fun _ _ q=>q,sb.turned t1 fun _ _ q=>q,sl.turned t1 fun _ _ q=>q,ht.trans t1 fun _ _ q=>q.elim⟩
set_option maxHeartbeats 8000000 in
theorem tdiff_any {w:World} {S:Nat→Prop} {va vb:Value} {ta tb:List Ent} (ha:Sl w S 96 2 va (ecells ta) ta.length) (hb:Sl w S 96 2 vb (ecells tb) tb.length) (hS:∀ b,S b→b<w.heap.size) (na:∀ x∈ta,x.2≠0∧x.2<4294967296) (nb:∀ x∈tb,x.2≠0∧x.2<4294967296)
  (la:ta.length≤1000000) (lb:tb.length≤1000000):Calls Tryz.prog 231 #[va,vb] w (DfPost w ta tb):=by
 obtain ⟨Z,hZ⟩:∃ Z,Z=DfPost w ta tb:=⟨_,rfl⟩
 have HZ:Hid (Z=DfPost w ta tb):=hZ
 rw [←hZ]
 have HS:Hid (∀ b,S b→b<w.heap.size):=hS
 have HL:Hid (ta.length≤1000000∧tb.length≤1000000):=⟨la,lb⟩
 have B0:Hid (DfRel w S ta tb (ta.length+tb.length) va vb (.slice none 0 0) w):=⟨ta,tb,[],rfl,Nat.le_refl _,Nat.le_refl _,na,nb,rfl,ha,hb,Sl.nil _ _ _ _,Turned.refl _ _⟩
 clear hZ ha hb hS na nb la lb
 obtain ⟨M,hM⟩:∃ M,M=ta.length+tb.length:=⟨_,rfl⟩
 rw [←hM]at B0
 clear hM
 go_enter Tryz.func231,Tryz.ntmps231
 go_wp2
 go_loopg [0,1,5] M (fun g av bv lv wr=>DfRel w S ta tb g av bv lv wr)
 case atStart=>exact B0.out
 case round=>
  clear B0
  obtain ⟨a,b,l,hg,ga,gb,na,nb,hd,sa,sb,sl,ht⟩:=hrel
  obtain ⟨nl,hnl⟩:∃ nl,nl=l.length:=⟨_,rfl⟩
  have hdl:=diffC_len ta tb
  have hll:l.length≤2000000:=by
   have:=congrArg List.length hd
   rw [List.length_append]at this
   have:=HL.out
   omega
  have HT:Hid (Turned (fun b=>w.heap.size≤b) w wr):=ht
  have HD:Hid (diffC ta tb=l ++ diffC a b):=hd
  have HNL:Hid (nl=l.length∧nl≤2000000):=⟨hnl,by omega⟩
  obtain ⟨lp,lc,rfl,-,-⟩:=sl.value
  rw [←hnl]at sl ⊢
  have SL:Hid (Sl wr (fun b=>w.heap.size≤b) 297 3 (.slice lp nl lc) (dcells l) nl):=sl
  clear hd hdl hll sl hnl
  cases a with
  |nil=>
   obtain ⟨ap,ac,rfl,-,-⟩:=sa.value
   have SA:Hid (Sl wr S 96 2 (.slice ap 0 ac) (ecells []) 0):=sa
   rw [List.length_nil]at sa ⊢
   clear sa
   cases b with
   |nil=>
    obtain ⟨bp,bc,rfl,-,-⟩:=sb.value
    rw [List.length_nil]at sb ⊢
    have HE:Hid (diffC ta tb=l):=hidS (by rw [HD.out,diffC_none,List.append_nil])
    clear hg ga gb na nb sb ht
    go_wp2
    rw [HZ.out]
    refine ⟨.slice lp nl lc,rfl,?_,?_⟩
    ·rw [HE.out,←HNL.out.1];exact SL.out
    ·exact HT.out.mono fun i hi q=>by omega
   |cons y b=>
    obtain ⟨g,off,cap,rfl,hSg,hgl,c0,c1,b',c',hsl,sb'⟩:=sl_first sb
    obtain ⟨n,hn⟩:∃ n,n=b.length:=⟨_,rfl⟩
    have HA:Hid (n=b.length∧Sl wr S 96 2 (.slice b' b.length c') (ecells b) b.length):=⟨hn,sb'⟩
    have HGL:Hid (b.length+1=gk∧b.length+1≤tb.length):=⟨by simpa using hg,by simpa using gb⟩
    rw [←hn]at hsl
    rw [←hn]
    obtain ⟨yp,yb⟩:=y
    have HX:Hid (yb≠0∧yb<4294967296):=nb _ List.mem_cons_self
    have hz:yb≠0:=HX.out.1
    dsimp only at c0 c1
    have e1:((0:Int) == (yb:Int))=false:=by simp;omega
    have e2:((0:Int) != (yb:Int))=true:=by simp;omega
    have HNB:Hid (∀ x∈b,x.2≠0∧x.2<4294967296):=fun z hz=>nb z (List.mem_cons_of_mem _ hz)
    clear hg ga gb na nb sb sb' hn hz ht
    have m1:Hid (nl+1≤maxLen∧(nl+1) * 24≤140737488355328):=hidS (by have:=HNL.out;simp only [maxLen];omega)
    have SRC:Hid _:=hidS (src_two wr (.cells #[.string yp,.int .u32 0,.int .u32 (yb:Nat)] 297) (.string yp) (.int .u32 0) (.int .u32 (yb:Nat)) (by simp [Value.oneCell']))
    have T1:Hid (Turned (fun _=>False) wr ((wr.alloc (.cells #[.string yp,.int .u32 0,.int .u32 (yb:Nat)] 297)).alloc (.cells #[.string yp,.int .u32 0,.int .u32 (yb:Nat)] 297))):=(Turned.alloc _ _ _).new _
    go_wp2
    go_region
    all_goals go_wp2_with (at_builtin;refine wpList_append rfl _ _ 294 294 rfl (SL.out.turned (T:=fun _=>False) (by first|(with_reducible exact T1.out)|(with_reducible exact T1.out.draw)) (fun _ _ q=>q)) Tryz.underlying294 info297 rfl (by decide) rfl (.slice (some ⟨wr.heap.size+1,0,none⟩) 1 1) rfl (show Src Tryz.prog 3 294 (.slice (some ⟨wr.heap.size+1,0,none⟩) 1 1) 1 [.string yp,.int .u32 0,.int .u32 (yb:Nat)] _ from by first|(with_reducible exact SRC.out.1)|(with_reducible exact SRC.out.2)) m1.out.1 m1.out.2 ?_;intro v5 w5 hsl5 ht5;obtain ⟨a5,c5,rfl,-,-⟩:=hsl5.value;have Y:Hid _:=hidS (And.intro hsl5 ht5);clear hsl5 ht5)
    all_goals
     go_roundg (gk - 1)
     case measure=>have:=HGL.out;omega
     case rel=>
      have hd:diffC ta tb=(l ++ [(⟨yp,0,yb⟩:Dc)]) ++ diffC [] b:=by rw [HD.out,diffC_right];simp
      first
       |exact df_next (x:=⟨yp,0,yb⟩) HS.out HT.out T1.out Y.out.2 Y.out.1 HNL.out.1 (by have:=HGL.out.1;simp at this ⊢;omega) (Nat.zero_le _) (by have:=HGL.out.2;omega) (fun z hz=>by simp at hz) HNB.out hd SA.out (by rw [HA.out.1];exact HA.out.2)
       |exact df_next (x:=⟨yp,0,yb⟩) HS.out HT.out T1.out.draw Y.out.2 Y.out.1 HNL.out.1 (by have:=HGL.out.1;simp at this ⊢;omega) (Nat.zero_le _) (by have:=HGL.out.2;omega) (fun z hz=>by simp at hz) HNB.out hd SA.out (by rw [HA.out.1];exact HA.out.2)
  |cons x a=>
   obtain ⟨g,off,cap,rfl,hSg,hgl,c0,c1,a',c',hsl,sa'⟩:=sl_first sa
   obtain ⟨n,hn⟩:∃ n,n=a.length:=⟨_,rfl⟩
   have HA:Hid (n=a.length∧Sl wr S 96 2 (.slice a' a.length c') (ecells a) a.length):=⟨hn,sa'⟩
   have HGL:Hid (a.length+b.length+1=gk∧a.length+1≤ta.length):=⟨by simp at hg;omega,by simpa using ga⟩
   rw [←hn]at hsl
   rw [←hn]
   cases b with
   |nil=>
    obtain ⟨xp,xb⟩:=x
    have hz:xb≠0:=(na _ List.mem_cons_self).1
    have HX:Hid (xb≠0∧xb<4294967296):=na _ List.mem_cons_self
    dsimp only at c0 c1
    obtain ⟨bp,bc,rfl,-,-⟩:=sb.value
    have e1:((xb:Int) == 0)=false:=by simp;omega
    have e2:((xb:Int) != 0)=true:=by simp;omega
    have HNA:Hid (∀ x∈a,x.2≠0∧x.2<4294967296):=fun z hz=>na z (List.mem_cons_of_mem _ hz)
    have SB:Hid (Sl wr S 96 2 (.slice bp 0 bc) (ecells []) 0):=sb
    clear hg ga gb na nb sa sa' hn hz ht
    rw [List.length_nil]at sb ⊢
    clear sb
    have m1:Hid (nl+1≤maxLen∧(nl+1) * 24≤140737488355328):=hidS (by have:=HNL.out;simp only [maxLen];omega)
    have SRC:Hid _:=hidS (src_two wr (.cells #[.string xp,.int .u32 (xb:Nat),.int .u32 0] 297) (.string xp) (.int .u32 (xb:Nat)) (.int .u32 0) (by simp [Value.oneCell']))
    have T1:Hid (Turned (fun _=>False) wr ((wr.alloc (.cells #[.string xp,.int .u32 (xb:Nat),.int .u32 0] 297)).alloc (.cells #[.string xp,.int .u32 (xb:Nat),.int .u32 0] 297))):=(Turned.alloc _ _ _).new _
    go_wp2
    go_region
    all_goals go_wp2_with (at_builtin;refine wpList_append rfl _ _ 294 294 rfl (SL.out.turned (T:=fun _=>False) (by first|(with_reducible exact T1.out)|(with_reducible exact T1.out.draw)) (fun _ _ q=>q)) Tryz.underlying294 info297 rfl (by decide) rfl (.slice (some ⟨wr.heap.size+1,0,none⟩) 1 1) rfl (show Src Tryz.prog 3 294 (.slice (some ⟨wr.heap.size+1,0,none⟩) 1 1) 1 [.string xp,.int .u32 (xb:Nat),.int .u32 0] _ from by first|(with_reducible exact SRC.out.1)|(with_reducible exact SRC.out.2)) m1.out.1 m1.out.2 ?_;intro v5 w5 hsl5 ht5;obtain ⟨a5,c5,rfl,-,-⟩:=hsl5.value;have Y:Hid _:=hidS (And.intro hsl5 ht5);clear hsl5 ht5)
    all_goals
     go_roundg (gk - 1)
     case measure=>have:=HGL.out;omega
     case rel=>
      have hd:diffC ta tb=(l ++ [(⟨xp,xb,0⟩:Dc)]) ++ diffC a []:=by rw [HD.out,diffC_left];simp
      first
       |exact df_next (x:=⟨xp,xb,0⟩) HS.out HT.out T1.out Y.out.2 Y.out.1 HNL.out.1 (by have:=HGL.out.1;simp at this ⊢;omega) (by have:=HGL.out.2;omega) (Nat.zero_le _) HNA.out (fun z hz=>by simp at hz) hd (by rw [HA.out.1];exact HA.out.2) SB.out
       |exact df_next (x:=⟨xp,xb,0⟩) HS.out HT.out T1.out.draw Y.out.2 Y.out.1 HNL.out.1 (by have:=HGL.out.1;simp at this ⊢;omega) (by have:=HGL.out.2;omega) (Nat.zero_le _) HNA.out (fun z hz=>by simp at hz) hd (by rw [HA.out.1];exact HA.out.2) SB.out
   |cons y b=>
    obtain ⟨g2,off2,cap2,rfl,hSg2,hgl2,d0,d1,b',c2',hsl2,sb'⟩:=sl_first sb
    obtain ⟨n2,hn2⟩:∃ n2,n2=b.length:=⟨_,rfl⟩
    have HB:Hid (n2=b.length∧Sl wr S 96 2 (.slice b' b.length c2') (ecells b) b.length):=⟨hn2,sb'⟩
    have HGL2:Hid (a.length+b.length+2=gk∧a.length+1≤ta.length∧b.length+1≤tb.length):=⟨by simp at hg;omega,by simpa using ga,by simpa using gb⟩
    have SB1:Hid (Sl wr S 96 2 (.slice (some ⟨g2,off2,none⟩) (b.length+1) cap2) (ecells (y :: b)) (y :: b).length):=sb
    have SA1:Hid (Sl wr S 96 2 (.slice (some ⟨g,off,none⟩) (a.length+1) cap) (ecells (x :: a)) (x :: a).length):=sa
    rw [←hn2]at hsl2 SB1
    rw [←hn]at SA1
    rw [←hn2]
    obtain ⟨xp,xb⟩:=x
    obtain ⟨yp,yb⟩:=y
    have HX:Hid (xb≠0∧xb<4294967296):=na _ List.mem_cons_self
    have HY:Hid (yb≠0∧yb<4294967296):=nb _ List.mem_cons_self
    dsimp only at c0 c1 d0 d1
    have HNA:Hid (∀ x∈a,x.2≠0∧x.2<4294967296):=fun z hz=>na z (List.mem_cons_of_mem _ hz)
    have HNB:Hid (∀ x∈b,x.2≠0∧x.2<4294967296):=fun z hz=>nb z (List.mem_cons_of_mem _ hz)
    have m1:Hid (nl+1≤maxLen∧(nl+1) * 24≤140737488355328):=hidS (by have:=HNL.out;simp only [maxLen];omega)
    obtain ⟨V,hV⟩:∃ V,V=wr.alloc (.cells #[.string ⟨#[]⟩,.int .u32 0,.int .u32 0] 297):=⟨_,rfl⟩
    have HVV:Hid (V=wr.alloc (.cells #[.string ⟨#[]⟩,.int .u32 0,.int .u32 0] 297)):=hV
    have tV:Turned (fun _=>False) wr V:=by rw [hV];exact Turned.alloc _ _ _
    have xV:V.heap[wr.heap.size]? = some (.cells #[.string ⟨#[]⟩,.int .u32 0,.int .u32 0] 297):=by rw [hV];exact heap_alloc_new _ _
    have TV:Hid (Turned (fun _=>False) wr V):=tV
    have KC:Hid (∀ W,Turned (fun _=>False) V W→W.cell? ⟨g,off,none⟩=some (.string xp)∧W.cell? ⟨g,off+1,none⟩=some (.int .u32 (xb:Nat))∧W.cell? ⟨g2,off2,none⟩=some (.string yp)∧W.cell? ⟨g2,off2+1,none⟩=some (.int .u32 (yb:Nat))∧W.heap[wr.heap.size]? = some (.cells #[.string ⟨#[]⟩,.int .u32 0,.int .u32 0] 297)∧g<W.heap.size∧g2<W.heap.size∧wr.heap.size<W.heap.size∧¬ g=wr.heap.size∧¬ g2=wr.heap.size):=fun W q=>by
     have t:=tV.trans q fun _ _ z=>z
     have hb:=boxed xV q id
     have hsz:=t.size
     exact ⟨cell_at c0 t id,cell_at c1 t id,cell_at d0 t id,cell_at d1 t id,hb,by omega,by omega,lt_of_block hb,by omega,by omega⟩
    have HBP:Hid (∀ W,Turned (fun _=>False) V W→Calls Tryz.prog 307 #[.agg #[.string xp,.int .u32 (xb:Nat)],.string yp] W fun e w'=>e = .returned (.int .i64 (ordB xp yp))∧Turned (fun _=>False) V w'):=fun W q=>(byPath_any (xp,xb) yp W).mono fun e w' ⟨u,v⟩=>⟨u,q.trans v fun _ _ z=>z⟩
    obtain ⟨v0,v1,v2,v3,v4,v5,v6,v7,v8,v9⟩:=KC.out V (Turned.refl _ _)
    have f0:=cell_of v4 0 _ rfl
    have f1:=cell_of v4 1 _ rfl
    have f2:=cell_of v4 2 _ rfl
    clear hg ga gb na nb sa sa' sb sb' hn hn2 ht hV tV xV
    rcases ordB_cases xp yp with ⟨o1,o2,o3,o4⟩|⟨o1,o2,o3,o4⟩|⟨o1,o2,o3,o4⟩
    ·have e1 : ((xb : Int) == 0) = false := by have := HX.out.1; simp; omega
     have e2:((xb:Int) != 0)=true:=by have:=HX.out.1;simp;omega
     rw [o1]at HBP
     have HO:Hid (ltB xp yp=true):=o2
     clear o1 o2 o3 o4
     go_wp2_with fail
     rw [←HVV.out]
     go_region_with (go_at_call 307;(with_reducible refine (HBP.out _ (Turned.drew _ _)).mono ?_);rintro e w2 ⟨rfl,q⟩;obtain ⟨k0,k1,k2,k3,k4,k5,k6,k7,k8,k9⟩:=KC.out w2 q;have j0:w2.cell? ⟨wr.heap.size,0,none⟩=some (.string ⟨#[]⟩):=cell_of k4 0 _ rfl;have j1:w2.cell? ⟨wr.heap.size,1,none⟩=some (.int .u32 0):=cell_of k4 1 _ rfl;have j2:w2.cell? ⟨wr.heap.size,2,none⟩=some (.int .u32 0):=cell_of k4 2 _ rfl;have i0:=free_of k4 0;have i1:=free_of k4 1;have i2:=free_of k4 2;replace k4:Hid _:=hidS k4;replace q:Hid _:=hidS q)
     all_goals clear v0 v1 v2 v3 v4 v5 v6 v7 v8 v9 f0 f1 f2
     all_goals have SRC:Hid _:=hidS (src_at (w2:=w2) (U:=((w2.setCell ⟨wr.heap.size,0,none⟩ (.string xp)).setCell ⟨wr.heap.size,1,none⟩ (.int .u32 (xb:Nat)))) (by simp) (.string xp) (.int .u32 (xb:Nat)) (.int .u32 0) (by simp [Value.oneCell']))
     all_goals have T0:Hid (Turned (fun _=>False) wr ((w2.setCell ⟨wr.heap.size,0,none⟩ (.string xp)).setCell ⟨wr.heap.size,1,none⟩ (.int .u32 (xb:Nat)))):=set_new TV.out q.out (((Turned.refl (· = wr.heap.size) w2).set (p:=⟨wr.heap.size,0,none⟩) rfl _).set (p:=⟨wr.heap.size,1,none⟩) rfl _) (Nat.le_refl _)
     all_goals have T1:Hid (Turned (fun _=>False) wr (((w2.setCell ⟨wr.heap.size,0,none⟩ (.string xp)).setCell ⟨wr.heap.size,1,none⟩ (.int .u32 (xb:Nat))).alloc (.cells #[.string xp,.int .u32 (xb:Nat),.int .u32 0] 297))):=T0.out.new _
     all_goals go_wp2
     all_goals go_region
     all_goals go_wp2_with (at_builtin;refine wpList_append rfl _ _ 294 294 rfl (SL.out.turned (T:=fun _=>False) (by first|(with_reducible exact T1.out)|(with_reducible exact T1.out.draw)|(with_reducible exact T1.out.draw.draw)) (fun _ _ q=>q)) Tryz.underlying294 info297 rfl (by decide) rfl (.slice (some ⟨w2.heap.size,0,none⟩) 1 1) rfl (show Src Tryz.prog 3 294 (.slice (some ⟨w2.heap.size,0,none⟩) 1 1) 1 [.string xp,.int .u32 (xb:Nat),.int .u32 0] _ from by first|(with_reducible exact SRC.out.1)|(with_reducible exact SRC.out.2.1)|(with_reducible exact SRC.out.2.2)) m1.out.1 m1.out.2 ?_;intro v5 w5 hsl5 ht5;obtain ⟨a5,c5,rfl,-,-⟩:=hsl5.value;have Y:Hid _:=hidS (And.intro hsl5 ht5);clear hsl5 ht5)
     all_goals
      go_roundg (gk - 1)
      case measure=>have:=HGL2.out;omega
      case rel=>
       have hd:diffC ta tb=(l ++ [(⟨xp,xb,0⟩:Dc)]) ++ diffC a ((yp,yb) :: b):=by rw [HD.out,diffC_lt HO.out];simp
       first
        |exact df_next (x:=⟨xp,xb,0⟩) HS.out HT.out T1.out Y.out.2 Y.out.1 HNL.out.1 (by have:=HGL2.out.1;first|omega|(simp only [List.length_cons];omega)) (by have:=HGL2.out.2;first|omega|(simp only [List.length_cons];omega)) (by have:=HGL2.out.2;first|omega|(simp only [List.length_cons];omega)) HNA.out (fun z hz=>(List.mem_cons.1 hz).elim (fun e=>e ▸ HY.out) (HNB.out z)) hd (by rw [HA.out.1];exact HA.out.2) SB1.out
        |exact df_next (x:=⟨xp,xb,0⟩) HS.out HT.out T1.out.draw Y.out.2 Y.out.1 HNL.out.1 (by have:=HGL2.out.1;first|omega|(simp only [List.length_cons];omega)) (by have:=HGL2.out.2;first|omega|(simp only [List.length_cons];omega)) (by have:=HGL2.out.2;first|omega|(simp only [List.length_cons];omega)) HNA.out (fun z hz=>(List.mem_cons.1 hz).elim (fun e=>e ▸ HY.out) (HNB.out z)) hd (by rw [HA.out.1];exact HA.out.2) SB1.out
        |exact df_next (x:=⟨xp,xb,0⟩) HS.out HT.out T1.out.draw.draw Y.out.2 Y.out.1 HNL.out.1 (by have:=HGL2.out.1;first|omega|(simp only [List.length_cons];omega)) (by have:=HGL2.out.2;first|omega|(simp only [List.length_cons];omega)) (by have:=HGL2.out.2;first|omega|(simp only [List.length_cons];omega)) HNA.out (fun z hz=>(List.mem_cons.1 hz).elim (fun e=>e ▸ HY.out) (HNB.out z)) hd (by rw [HA.out.1];exact HA.out.2) SB1.out
    ·rw [o1] at HBP
     subst o2
     by_cases hxy:xb=yb
     ·have HO : Hid (ltB xp xp = false ∧ ltB xp xp = false ∧ ((xp, xb) : Ent).2 = ((xp, yb) : Ent).2) := ⟨o3, o4, hxy⟩
      have e1:((xb:Int) == (yb:Int))=true:=by simp;omega
      have e2:((xb:Int) != (yb:Int))=false:=by simp;omega
      clear o1 o3 o4 hxy
      go_wp2_with fail
      rw [←HVV.out]
      go_region_with (go_at_call 307;(with_reducible refine (HBP.out _ (Turned.drew _ _)).mono ?_);rintro e w2 ⟨rfl,q⟩;obtain ⟨k0,k1,k2,k3,k4,k5,k6,k7,k8,k9⟩:=KC.out w2 q;have j0:w2.cell? ⟨wr.heap.size,0,none⟩=some (.string ⟨#[]⟩):=cell_of k4 0 _ rfl;have j1:w2.cell? ⟨wr.heap.size,1,none⟩=some (.int .u32 0):=cell_of k4 1 _ rfl;have j2:w2.cell? ⟨wr.heap.size,2,none⟩=some (.int .u32 0):=cell_of k4 2 _ rfl;have i0:=free_of k4 0;have i1:=free_of k4 1;have i2:=free_of k4 2;replace k4:Hid _:=hidS k4;replace q:Hid _:=hidS q)
      all_goals clear v0 v1 v2 v3 v4 v5 v6 v7 v8 v9 f0 f1 f2
      all_goals have SRC:Hid _:=hidS (src_at (w2:=w2) (U:=((((w2.setCell ⟨wr.heap.size,0,none⟩ (.string xp)).setCell ⟨wr.heap.size,1,none⟩ (.int .u32 (xb:Nat))).setCell ⟨wr.heap.size,0,none⟩ (.string xp)).setCell ⟨wr.heap.size,2,none⟩ (.int .u32 (yb:Nat)))) (by simp) (.string xp) (.int .u32 (xb:Nat)) (.int .u32 (yb:Nat)) (by simp [Value.oneCell']))
      all_goals have T0:Hid (Turned (fun _=>False) wr ((((w2.setCell ⟨wr.heap.size,0,none⟩ (.string xp)).setCell ⟨wr.heap.size,1,none⟩ (.int .u32 (xb:Nat))).setCell ⟨wr.heap.size,0,none⟩ (.string xp)).setCell ⟨wr.heap.size,2,none⟩ (.int .u32 (yb:Nat)))):=set_new TV.out q.out (((((Turned.refl (· = wr.heap.size) w2).set (p:=⟨wr.heap.size,0,none⟩) rfl _).set (p:=⟨wr.heap.size,1,none⟩) rfl _).set (p:=⟨wr.heap.size,0,none⟩) rfl _).set (p:=⟨wr.heap.size,2,none⟩) rfl _) (Nat.le_refl _)
      all_goals have T1:Hid (Turned (fun _=>False) wr (((((w2.setCell ⟨wr.heap.size,0,none⟩ (.string xp)).setCell ⟨wr.heap.size,1,none⟩ (.int .u32 (xb:Nat))).setCell ⟨wr.heap.size,0,none⟩ (.string xp)).setCell ⟨wr.heap.size,2,none⟩ (.int .u32 (yb:Nat))).alloc (.cells #[.string xp,.int .u32 (xb:Nat),.int .u32 (yb:Nat)] 297))):=T0.out.new _
      all_goals go_wp2
      all_goals go_region
      all_goals go_wp2
      all_goals go_region
      all_goals go_wp2
      all_goals
       go_roundg (gk - 2)
       case measure=>have:=HGL2.out;omega
       case rel=>
        have hd:diffC ta tb=l ++ diffC a b:=by rw [HD.out,diffC_same HO.out.1 HO.out.2.1 HO.out.2.2]
        first
         |exact df_skip HS.out HT.out T0.out (by rw [←HNL.out.1];exact SL.out) (by have:=HGL2.out.1;first|omega|(simp only [List.length_cons];omega)) (by have:=HGL2.out.2;first|omega|(simp only [List.length_cons];omega)) (by have:=HGL2.out.2;first|omega|(simp only [List.length_cons];omega)) HNA.out HNB.out hd (by rw [HA.out.1];exact HA.out.2) (by rw [HB.out.1];exact HB.out.2)
         |exact df_skip HS.out HT.out T0.out.draw (by rw [←HNL.out.1];exact SL.out) (by have:=HGL2.out.1;first|omega|(simp only [List.length_cons];omega)) (by have:=HGL2.out.2;first|omega|(simp only [List.length_cons];omega)) (by have:=HGL2.out.2;first|omega|(simp only [List.length_cons];omega)) HNA.out HNB.out hd (by rw [HA.out.1];exact HA.out.2) (by rw [HB.out.1];exact HB.out.2)
         |exact df_skip HS.out HT.out T0.out.draw.draw (by rw [←HNL.out.1];exact SL.out) (by have:=HGL2.out.1;first|omega|(simp only [List.length_cons];omega)) (by have:=HGL2.out.2;first|omega|(simp only [List.length_cons];omega)) (by have:=HGL2.out.2;first|omega|(simp only [List.length_cons];omega)) HNA.out HNB.out hd (by rw [HA.out.1];exact HA.out.2) (by rw [HB.out.1];exact HB.out.2)
     ·have HO : Hid (ltB xp xp = false ∧ ltB xp xp = false ∧ ((xp, xb) : Ent).2 ≠ ((xp, yb) : Ent).2) := ⟨o3, o4, hxy⟩
      have e1:((xb:Int) == (yb:Int))=false:=by simp;omega
      have e2:((xb:Int) != (yb:Int))=true:=by simp;omega
      clear o1 o3 o4 hxy
      go_wp2_with fail
      rw [←HVV.out]
      go_region_with (go_at_call 307;(with_reducible refine (HBP.out _ (Turned.drew _ _)).mono ?_);rintro e w2 ⟨rfl,q⟩;obtain ⟨k0,k1,k2,k3,k4,k5,k6,k7,k8,k9⟩:=KC.out w2 q;have j0:w2.cell? ⟨wr.heap.size,0,none⟩=some (.string ⟨#[]⟩):=cell_of k4 0 _ rfl;have j1:w2.cell? ⟨wr.heap.size,1,none⟩=some (.int .u32 0):=cell_of k4 1 _ rfl;have j2:w2.cell? ⟨wr.heap.size,2,none⟩=some (.int .u32 0):=cell_of k4 2 _ rfl;have i0:=free_of k4 0;have i1:=free_of k4 1;have i2:=free_of k4 2;replace k4:Hid _:=hidS k4;replace q:Hid _:=hidS q)
      all_goals clear v0 v1 v2 v3 v4 v5 v6 v7 v8 v9 f0 f1 f2
      all_goals have SRC:Hid _:=hidS (src_at (w2:=w2) (U:=((((w2.setCell ⟨wr.heap.size,0,none⟩ (.string xp)).setCell ⟨wr.heap.size,1,none⟩ (.int .u32 (xb:Nat))).setCell ⟨wr.heap.size,0,none⟩ (.string xp)).setCell ⟨wr.heap.size,2,none⟩ (.int .u32 (yb:Nat)))) (by simp) (.string xp) (.int .u32 (xb:Nat)) (.int .u32 (yb:Nat)) (by simp [Value.oneCell']))
      all_goals have T0:Hid (Turned (fun _=>False) wr ((((w2.setCell ⟨wr.heap.size,0,none⟩ (.string xp)).setCell ⟨wr.heap.size,1,none⟩ (.int .u32 (xb:Nat))).setCell ⟨wr.heap.size,0,none⟩ (.string xp)).setCell ⟨wr.heap.size,2,none⟩ (.int .u32 (yb:Nat)))):=set_new TV.out q.out (((((Turned.refl (· = wr.heap.size) w2).set (p:=⟨wr.heap.size,0,none⟩) rfl _).set (p:=⟨wr.heap.size,1,none⟩) rfl _).set (p:=⟨wr.heap.size,0,none⟩) rfl _).set (p:=⟨wr.heap.size,2,none⟩) rfl _) (Nat.le_refl _)
      all_goals have T1:Hid (Turned (fun _=>False) wr (((((w2.setCell ⟨wr.heap.size,0,none⟩ (.string xp)).setCell ⟨wr.heap.size,1,none⟩ (.int .u32 (xb:Nat))).setCell ⟨wr.heap.size,0,none⟩ (.string xp)).setCell ⟨wr.heap.size,2,none⟩ (.int .u32 (yb:Nat))).alloc (.cells #[.string xp,.int .u32 (xb:Nat),.int .u32 (yb:Nat)] 297))):=T0.out.new _
      all_goals go_wp2
      all_goals go_region
      all_goals go_wp2
      all_goals go_region
      all_goals go_wp2_with (at_builtin;refine wpList_append rfl _ _ 294 294 rfl (SL.out.turned (T:=fun _=>False) (by first|(with_reducible exact T1.out)|(with_reducible exact T1.out.draw)|(with_reducible exact T1.out.draw.draw)) (fun _ _ q=>q)) Tryz.underlying294 info297 rfl (by decide) rfl (.slice (some ⟨w2.heap.size,0,none⟩) 1 1) rfl (show Src Tryz.prog 3 294 (.slice (some ⟨w2.heap.size,0,none⟩) 1 1) 1 [.string xp,.int .u32 (xb:Nat),.int .u32 (yb:Nat)] _ from by first|(with_reducible exact SRC.out.1)|(with_reducible exact SRC.out.2.1)|(with_reducible exact SRC.out.2.2)) m1.out.1 m1.out.2 ?_;intro v5 w5 hsl5 ht5;obtain ⟨a5,c5,rfl,-,-⟩:=hsl5.value;have Y:Hid _:=hidS (And.intro hsl5 ht5);clear hsl5 ht5)
      all_goals
       go_roundg (gk - 2)
       case measure=>have:=HGL2.out;omega
       case rel=>
        have hd:diffC ta tb=(l ++ [(⟨xp,xb,yb⟩:Dc)]) ++ diffC a b:=by rw [HD.out,diffC_turned HO.out.1 HO.out.2.1 HO.out.2.2];simp
        first
         |exact df_next (x:=⟨xp,xb,yb⟩) HS.out HT.out T1.out Y.out.2 Y.out.1 HNL.out.1 (by have:=HGL2.out.1;first|omega|(simp only [List.length_cons];omega)) (by have:=HGL2.out.2;first|omega|(simp only [List.length_cons];omega)) (by have:=HGL2.out.2;first|omega|(simp only [List.length_cons];omega)) HNA.out HNB.out hd (by rw [HA.out.1];exact HA.out.2) (by rw [HB.out.1];exact HB.out.2)
         |exact df_next (x:=⟨xp,xb,yb⟩) HS.out HT.out T1.out.draw Y.out.2 Y.out.1 HNL.out.1 (by have:=HGL2.out.1;first|omega|(simp only [List.length_cons];omega)) (by have:=HGL2.out.2;first|omega|(simp only [List.length_cons];omega)) (by have:=HGL2.out.2;first|omega|(simp only [List.length_cons];omega)) HNA.out HNB.out hd (by rw [HA.out.1];exact HA.out.2) (by rw [HB.out.1];exact HB.out.2)
         |exact df_next (x:=⟨xp,xb,yb⟩) HS.out HT.out T1.out.draw.draw Y.out.2 Y.out.1 HNL.out.1 (by have:=HGL2.out.1;first|omega|(simp only [List.length_cons];omega)) (by have:=HGL2.out.2;first|omega|(simp only [List.length_cons];omega)) (by have:=HGL2.out.2;first|omega|(simp only [List.length_cons];omega)) HNA.out HNB.out hd (by rw [HA.out.1];exact HA.out.2) (by rw [HB.out.1];exact HB.out.2)
    ·have e1 : ((0 : Int) == (yb : Int)) = false := by have := HY.out.1; simp; omega
     have e2:((0:Int) != (yb:Int))=true:=by have:=HY.out.1;simp;omega
     rw [o1]at HBP
     have HO:Hid (ltB xp yp=false∧ltB yp xp=true):=⟨o3,o2⟩
     clear o1 o2 o3 o4
     go_wp2_with fail
     rw [←HVV.out]
     go_region_with (go_at_call 307;(with_reducible refine (HBP.out _ (Turned.drew _ _)).mono ?_);rintro e w2 ⟨rfl,q⟩;obtain ⟨k0,k1,k2,k3,k4,k5,k6,k7,k8,k9⟩:=KC.out w2 q;have j0:w2.cell? ⟨wr.heap.size,0,none⟩=some (.string ⟨#[]⟩):=cell_of k4 0 _ rfl;have j1:w2.cell? ⟨wr.heap.size,1,none⟩=some (.int .u32 0):=cell_of k4 1 _ rfl;have j2:w2.cell? ⟨wr.heap.size,2,none⟩=some (.int .u32 0):=cell_of k4 2 _ rfl;have i0:=free_of k4 0;have i1:=free_of k4 1;have i2:=free_of k4 2;replace k4:Hid _:=hidS k4;replace q:Hid _:=hidS q)
     all_goals clear v0 v1 v2 v3 v4 v5 v6 v7 v8 v9 f0 f1 f2
     all_goals have SRC:Hid _:=hidS (src_at (w2:=w2) (U:=((w2.setCell ⟨wr.heap.size,0,none⟩ (.string yp)).setCell ⟨wr.heap.size,2,none⟩ (.int .u32 (yb:Nat)))) (by simp) (.string yp) (.int .u32 0) (.int .u32 (yb:Nat)) (by simp [Value.oneCell']))
     all_goals have T0:Hid (Turned (fun _=>False) wr ((w2.setCell ⟨wr.heap.size,0,none⟩ (.string yp)).setCell ⟨wr.heap.size,2,none⟩ (.int .u32 (yb:Nat)))):=set_new TV.out q.out (((Turned.refl (· = wr.heap.size) w2).set (p:=⟨wr.heap.size,0,none⟩) rfl _).set (p:=⟨wr.heap.size,2,none⟩) rfl _) (Nat.le_refl _)
     all_goals have T1:Hid (Turned (fun _=>False) wr (((w2.setCell ⟨wr.heap.size,0,none⟩ (.string yp)).setCell ⟨wr.heap.size,2,none⟩ (.int .u32 (yb:Nat))).alloc (.cells #[.string yp,.int .u32 0,.int .u32 (yb:Nat)] 297))):=T0.out.new _
     all_goals go_wp2
     all_goals go_region
     all_goals go_wp2_with (at_builtin;refine wpList_append rfl _ _ 294 294 rfl (SL.out.turned (T:=fun _=>False) (by first|(with_reducible exact T1.out)|(with_reducible exact T1.out.draw)|(with_reducible exact T1.out.draw.draw)) (fun _ _ q=>q)) Tryz.underlying294 info297 rfl (by decide) rfl (.slice (some ⟨w2.heap.size,0,none⟩) 1 1) rfl (show Src Tryz.prog 3 294 (.slice (some ⟨w2.heap.size,0,none⟩) 1 1) 1 [.string yp,.int .u32 0,.int .u32 (yb:Nat)] _ from by first|(with_reducible exact SRC.out.1)|(with_reducible exact SRC.out.2.1)|(with_reducible exact SRC.out.2.2)) m1.out.1 m1.out.2 ?_;intro v5 w5 hsl5 ht5;obtain ⟨a5,c5,rfl,-,-⟩:=hsl5.value;have Y:Hid _:=hidS (And.intro hsl5 ht5);clear hsl5 ht5)
     all_goals
      go_roundg (gk - 1)
      case measure=>have:=HGL2.out;omega
      case rel=>
       have hd:diffC ta tb=(l ++ [(⟨yp,0,yb⟩:Dc)]) ++ diffC ((xp,xb) :: a) b:=by rw [HD.out,diffC_gt HO.out.1 HO.out.2];simp
       first
        |exact df_next (x:=⟨yp,0,yb⟩) HS.out HT.out T1.out Y.out.2 Y.out.1 HNL.out.1 (by have:=HGL2.out.1;first|omega|(simp only [List.length_cons];omega)) (by have:=HGL2.out.2;first|omega|(simp only [List.length_cons];omega)) (by have:=HGL2.out.2;first|omega|(simp only [List.length_cons];omega)) (fun z hz=>(List.mem_cons.1 hz).elim (fun e=>e ▸ HX.out) (HNA.out z)) HNB.out hd SA1.out (by rw [HB.out.1];exact HB.out.2)
        |exact df_next (x:=⟨yp,0,yb⟩) HS.out HT.out T1.out.draw Y.out.2 Y.out.1 HNL.out.1 (by have:=HGL2.out.1;first|omega|(simp only [List.length_cons];omega)) (by have:=HGL2.out.2;first|omega|(simp only [List.length_cons];omega)) (by have:=HGL2.out.2;first|omega|(simp only [List.length_cons];omega)) (fun z hz=>(List.mem_cons.1 hz).elim (fun e=>e ▸ HX.out) (HNA.out z)) HNB.out hd SA1.out (by rw [HB.out.1];exact HB.out.2)
        |exact df_next (x:=⟨yp,0,yb⟩) HS.out HT.out T1.out.draw.draw Y.out.2 Y.out.1 HNL.out.1 (by have:=HGL2.out.1;first|omega|(simp only [List.length_cons];omega)) (by have:=HGL2.out.2;first|omega|(simp only [List.length_cons];omega)) (by have:=HGL2.out.2;first|omega|(simp only [List.length_cons];omega)) (fun z hz=>(List.mem_cons.1 hz).elim (fun e=>e ▸ HX.out) (HNA.out z)) HNB.out hd SA1.out (by rw [HB.out.1];exact HB.out.2)
end Go.Proofs.YtofcogekgcgjhaaGreatDoor
