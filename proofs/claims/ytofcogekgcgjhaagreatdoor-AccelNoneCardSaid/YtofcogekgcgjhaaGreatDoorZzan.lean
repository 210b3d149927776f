/- Packed. -/
import Derived.Test.YtofcogekgcgjhaaGreatDoorZzam
import Derived.Test.YtofcogekgcgjhaaGreatDoorZzaj
set_option linter.unusedVariables false
set_option linter.unusedSimpArgs false
set_option maxRecDepth 100000
namespace Go.Mine
theorem Sl.bound {w:World} {S:Nat→Prop} {e:TypeId} {size:Nat} {v:Value} {xs:List Value} {n:Nat} (h:Sl w S e size v xs n):Sl w (fun b=>S b∧b<w.heap.size) e size v xs n:=by
 refine ⟨h.1,?_⟩
 rcases h.2 with h|⟨g,off,cap,cur,h1,h2,h3,h4⟩
 ·exact .inl h
 ·exact .inr ⟨g,off,cap,cur,h1,⟨h2,lt_of_block h3⟩,h3,h4⟩
theorem Sl.set {w:World} {S:Nat→Prop} {e:TypeId} {size:Nat} {g off cap:Nat} {xs:List Value} {n:Nat} (h:Sl w S e size (.slice (some ⟨g,off,none⟩) n cap) xs n) (j:Nat) (hj:j<n * size) (u:Value) :
  Sl (w.setCell ⟨g,off+j,none⟩ u) S e size (.slice (some ⟨g,off,none⟩) n cap) (xs.set j u) n∧Turned S w (w.setCell ⟨g,off+j,none⟩ u)∧(w.setCell ⟨g,off+j,none⟩ u).heap.size=w.heap.size:=by
 rcases h.2 with ⟨hv,-⟩|⟨g2,off2,cap2,cur,hv,hS,hg,hnc,hcm,hcs,ht⟩
 ·simp at hv
 ·injection hv with e1 e2 e3
  injection e1 with e1
  injection e1 with e4 e5 e6
  subst e4;subst e5;subst e3
  have hmul:n * size≤cap * size:=Nat.mul_le_mul_right _ hnc
  refine ⟨⟨by simpa using h.1,.inr ⟨g,off,cap,_,rfl,hS,Go.Mine.heap_setCell_same hg u,hnc,hcm,by simpa using hcs,?_⟩⟩,Turned.setCell hS u,Go.Mine.setCell_size _ _ _⟩
  rw [Array.toList_setIfInBounds,←ht]
  apply List.ext_getElem?
  intro k
  rw [List.getElem?_take,List.getElem?_drop,List.getElem?_set,List.getElem?_set,List.getElem?_take,List.getElem?_drop]
  have hlen:(List.take (n * size) (List.drop off cur.toList)).length=n * size:=by rw [ht];exact h.1
  by_cases hk:k<n * size
  ·rw [if_pos hk, if_pos hk]
   by_cases hkj:j=k
   ·subst hkj
    rw [if_pos rfl,if_pos rfl,if_pos (by simp;omega),if_pos (by rw [hlen];exact hk)]
   ·rw [if_neg (by omega),if_neg hkj]
  ·rw [if_neg hk,if_neg hk,if_neg (by omega)]
end Go.Mine
namespace Go.Proofs.YtofcogekgcgjhaaGreatDoor
open Go.RowKit Go.Mine
theorem info3:(Tryz.prog.info? 3).map (fun i=>(i.zero,i.size,i.bytes))=some (some (.int .i64 0),1,8):=by kernel_rfl
def bare (t:List (Nat×Nat)):List Ch:=t.map fun e=>(e.1,⟨#[]⟩)
def icells (t:List (Nat×Nat)):List Value:=t.map fun e=>.int .i64 (e.2:Nat)
def Apart (w wr:World) (S1 S2:Nat→Prop):Prop:=(∀ b,S1 b→w.heap.size≤b∧b<wr.heap.size∧¬ S2 b)∧(∀ b,S2 b→w.heap.size≤b∧b<wr.heap.size)
def T1 (w:World) (p:Nat) (s:ByteArray) (st:Nat×Nat) (c:Nat) (g:Nat) (lv sv last i:Value) (wr:World):Prop:=
 ∃ (k m:Nat) (S1 S2:Nat→Prop),k+g=c∧i = .int .u8 k∧last = .int .u32 m∧chk (tabK s st k).1=some m∧Sl wr S1 285 2 lv (ccells (bare (tabK s st k).1)) k ∧
  Sl wr S2 3 1 sv (icells (tabK s st k).1) k∧RdIs wr p s (tabK s st k).2∧Turned (· = p) w wr∧Apart w wr S1 S2
def T2 (w:World) (p:Nat) (s:ByteArray) (st:Nat×Nat) (t:List (Nat×Nat)) (lv sv:Value) (g:Nat) (i:Value) (wr:World):Prop:=
 ∃ (k:Nat) (S1 S2:Nat→Prop),k+g=t.length∧i = .int .i64 k∧Sl wr S1 285 2 lv (ccells ((dat s st (t.take k)).1 ++ bare (t.drop k))) t.length ∧
  Sl wr S2 3 1 sv (icells t) t.length∧RdIs wr p s (dat s st (t.take k)).2∧Turned (· = p) w wr∧Apart w wr S1 S2
theorem ccells_set (A:List Ch) (i:Nat) (x b:ByteArray) (B:List Ch):(ccells (A ++ (i,x) :: B)).set (A.length * 2+1) (.string b)=ccells (A ++ [(i,b)] ++ B):=by
 rw [ccells_append,List.append_assoc,ccells_append]
 have h:=ccells_length A
 rw [List.set_append_right _ _ (by omega),h]
 congr 1
 rw [show A.length * 2+1 - A.length * 2=1 by omega]
 rfl
def TabPost (w:World) (p:Nat) (s:ByteArray) (e:Ending) (w' : World):Prop:=
 Turned (· = p) w w'∧((progT s=none∧e = .returned (.tuple #[.slice none 0 0,.int .i64 3])) ∨
  ∃ l v,progT s=some l∧e = .returned (.tuple #[v,.int .i64 0])∧Sl w' (fun b=>w.heap.size≤b) 285 2 v (ccells l) l.length)
set_option maxHeartbeats 4000000 in
theorem table_any {w:World} {p:Nat} {s:ByteArray} (h:RdIs w p s (0,0)) (hs:s.size≤4611686018427387904):Calls Tryz.prog 287 #[pt p] w (TabPost w p s):=by
 have HS:Hid (s.size≤4611686018427387904):=hs
 have hp:=lt_of_block h
 have HP:Hid (p<w.heap.size):=hp
 have h8:=u8_r h (Nat.zero_le _) hs
 unfold NumPost at h8
 obtain ⟨c,hc⟩:∃ c,c=rdNum s (0,0) 1:=⟨_,rfl⟩
 have hc256:c.1<256:=by rw [hc];exact rdNum_lt s (0,0) 1
 have hcat:c.2.1≤s.size:=by rw [hc];exact rdNum_at s (0,0) 1 (Nat.zero_le _)
 rw [←hc]at h8
 have HC:Hid (c=rdNum s (0,0) 1∧c.1<256∧c.2.1≤s.size):=⟨hc,hc256,hcat⟩
 obtain ⟨n,st⟩:=c
 simp only at h8 HC
 clear h hs hp hc hc256 hcat
 by_cases h16:16<n
 ·have hd : decide ((16 : Int) < (n : Int)) = true := by simp; omega
  have hd2:decide (16<n)=true:=by simp;omega
  have HN:Hid (progT s=none):=by
   have h1:=HC.out.1
   have:progT s=none:=by
    unfold progT
    simp only [←h1]
    rw [if_pos h16]
   exact this
  clear h16
  go_enter Tryz.func287,Tryz.ntmps287
  go_wp2_with (go_at_call 125;(with_reducible refine h8.mono ?_);rintro e w1 ⟨rfl,hr,ht⟩)
  go_ret2
  exact ⟨ht,.inl ⟨HN.out,rfl⟩⟩
 ·have hd : decide ((16 : Int) < (n : Int)) = false := by simp; omega
  have hd2:decide (16<n)=false:=by simp;omega
  have H16:Hid (n≤16):=(by omega:n≤16)
  clear h16
  go_enter Tryz.func287,Tryz.ntmps287
  go_wp2_with (go_at_call 125;(with_reducible refine h8.mono ?_);rintro e w1 ⟨rfl,hr,ht⟩)
  have HS1:Hid (T1 w p s st n n (.slice none 0 0) (.slice none 0 0) (.int .u32 0) (.int .u8 0) w1):=
   ⟨0,0,fun _=>False,fun _=>False,by omega,rfl,rfl,rfl,Sl.nil _ _ _ _,Sl.nil _ _ _ _,hr,ht,⟨fun _ q=>q.elim,fun _ q=>q.elim⟩⟩
  clear hr ht hd hd2 h8
  go_loopg [6,7,8,23] n (fun g lv sv last i wr=>T1 w p s st n g lv sv last i wr)
  case atStart=>exact HS1.out
  case round=>
   obtain ⟨k,m,S1,S2,hkg,rfl,rfl,hck,hsl1,hsl2,hrd,htw,hap⟩:=hrel
   have G:Hid (k+gk=n):=hkg
   have CK:Hid (chk (tabK s st k).1=some m):=hck
   have L1:Hid (Sl wr S1 285 2 u6 (ccells (bare (tabK s st k).1)) k):=hsl1
   have L2:Hid (Sl wr S2 3 1 u7 (icells (tabK s st k).1) k):=hsl2
   have RD:Hid (RdIs wr p s (tabK s st k).2):=hrd
   have TW:Hid (Turned (· = p) w wr):=htw
   have AP:Hid (Apart w wr S1 S2):=hap
   obtain ⟨a1,cap1,rfl,-,-⟩:=hsl1.value
   obtain ⟨a2,cap2,rfl,-,-⟩:=hsl2.value
   clear hkg hck hsl1 hsl2 hrd htw hap HS1
   have hat:=tabK_at s st k HC.out.2.2
   have hA:=u32_r RD.out hat HS.out
   have hB:=fun w2 (hr2:RdIs w2 p s (rdNum s (tabK s st k).2 4).2)=>u32_r hr2 (rdNum_at s _ 4 hat) HS.out
   unfold NumPost at hA hB
   have TS:Hid ((tabK s st (k+1)).1=(tabK s st k).1 ++ [((rdNum s (tabK s st k).2 4).1,(rdNum s (rdNum s (tabK s st k).2 4).2 4).1)]∧(tabK s st (k+1)).2=(rdNum s (rdNum s (tabK s st k).2 4).2 4).2):=⟨rfl,rfl⟩
   have hq1:=rdNum_lt s (tabK s st k).2 4
   have hq2:=rdNum_lt s (rdNum s (tabK s st k).2 4).2 4
   generalize (rdNum s (rdNum s (tabK s st k).2 4).2 4)=q2 at *
   generalize (rdNum s (tabK s st k).2 4)=q1 at *
   obtain ⟨id,st1⟩:=q1
   obtain ⟨sz,st2⟩:=q2
   simp only at hA hB TS hq1 hq2
   have HB:Hid (∀ w2,RdIs w2 p s st1→Calls Tryz.prog 123 #[pt p] w2 fun e w'=>e = .returned (.tuple #[.int .u32 (sz:Nat),.int .i64 (st2.2:Nat)])∧RdIs w' p s st2∧Turned (· = p) w2 w'):=hB
   have HQ:Hid (id<4294967296∧sz<4294967296):=⟨hq1,hq2⟩
   clear hat hB hq1 hq2
   by_cases hlt:k<n
   ·by_cases hmi : m < id
    ·have hd : decide ((id : Int) ≤ (m : Int)) = false := by simp; omega
     have hd2:decide (id≤m)=false:=by simp;omega
     have HM:Hid (m<id):=hmi
     have HW:Hid (wrap64 (sz:Int)=(sz:Int)):=(by have:=HQ.out;simp [wrap64];omega:wrap64 (sz:Int)=(sz:Int))
     have m1:Hid (k+1≤maxLen∧(k+1) * 24≤140737488355328∧(k+1) * 8≤140737488355328):=(by have:=H16.out;simp only [maxLen];omega:k+1≤maxLen∧(k+1) * 24≤140737488355328∧(k+1) * 8≤140737488355328)
     clear hmi
     go_wp2_with (first
      |(go_at_call 123;(with_reducible refine hA.mono ?_);rintro e w2 ⟨rfl,hr2,ht2⟩;have h60:=HB.out w2 hr2;have Z2:Hid (Turned (· = p) wr w2):=ht2;clear hr2 ht2 hA)
      |(go_at_call 123;(with_reducible refine h60.mono ?_);rintro e w3 ⟨rfl,hr3,ht3⟩;have Z3:Hid (Turned (· = p) wr w3∧RdIs w3 p s st2):=⟨Z2.out.trans ht3 (fun _ _ q=>q),hr3⟩;have A1:Hid (Sl (w3.alloc (.cells #[.int .u32 (id:Nat),.string ⟨#[]⟩] 285)) S1 285 2 (.slice a1 k cap1) (ccells (bare (tabK s st k).1)) k):=(L1.out.turned Z3.out.1 (fun b q z=>by have:=AP.out.1 b q;have:=HP.out;omega)).turned (Turned.alloc (fun _=>False) w3 _) (fun _ _ q=>q);clear hr3 ht3 h60)
      |(at_builtin;first
       |(refine wpList_append rfl _ _ 273 273 rfl A1.out Tryz.underlying273 info31 rfl (by decide) rfl (.slice (some ⟨w3.heap.size,0,none⟩) 1 1) rfl (src_ch (id,⟨#[]⟩) w3) m1.out.1 m1.out.2.1 ?_;intro x4 w4 q1 t1;obtain ⟨a3,cap3,hv3,-,-⟩:=q1.value;subst hv3;have Q1:Hid (Sl w4 (More S1 (w3.alloc (.cells #[.int .u32 (id:Nat),.string ⟨#[]⟩] 285))) 285 2 (.slice a3 (k+1) cap3) (ccells (bare (tabK s st k).1) ++ ccells [(id,⟨#[]⟩)]) (k+1)∧Turned S1 (w3.alloc (.cells #[.int .u32 (id:Nat),.string ⟨#[]⟩] 285)) w4):=⟨q1,t1⟩;have A2:Hid (Sl (w4.alloc (.cells #[.int .i64 (wrap64 (sz:Int))] 3)) S2 3 1 (.slice a2 k cap2) (icells (tabK s st k).1) k):=(((L2.out.turned Z3.out.1 (fun b q z=>by have:=AP.out.2 b q;have:=HP.out;omega)).turned ((Turned.alloc S1 w3 (.cells #[.int .u32 (id:Nat),.string ⟨#[]⟩] 285)).trans t1 (fun _ _ q=>q)) (fun b q z=>(AP.out.1 b z).2.2 q)).turned (Turned.alloc (fun _=>False) w4 _) (fun _ _ q=>q));clear q1 t1)
       |(refine wpList_append rfl _ _ 41 41 rfl A2.out Tryz.underlying41 info3 rfl (by decide) rfl (.slice (some ⟨w4.heap.size,0,none⟩) 1 1) rfl (src_one Tryz.underlying41 (.int .i64 (wrap64 (sz:Int))) rfl w4) m1.out.1 m1.out.2.2 ?_;intro x5 w5 q3 t3;obtain ⟨a5,cap5,hv5,-,-⟩:=q3.value;subst hv5;have Q3:Hid (Sl w5 (More S2 (w4.alloc (.cells #[.int .i64 (wrap64 (sz:Int))] 3))) 3 1 (.slice a5 (k+1) cap5) (icells (tabK s st k).1 ++ [.int .i64 (wrap64 (sz:Int))]) (k+1)∧Turned S2 (w4.alloc (.cells #[.int .i64 (wrap64 (sz:Int))] 3)) w5):=⟨q3,t3⟩;clear q3 t3)))
     go_roundg (gk - 1)
     case measure=>have:=G.out;omega
     case rel=>
      have g0:=TW.out.size
      have g1:=Z3.out.1.size
      have g2:=Q1.out.2.size
      have g3:=Q3.out.2.size
      have g4:(w3.alloc (.cells #[.int .u32 (id:Nat),.string ⟨#[]⟩] 285)).heap.size=w3.heap.size+1:=by simp
      have g5:(w4.alloc (.cells #[.int .i64 (wrap64 (sz:Int))] 3)).heap.size=w4.heap.size+1:=by simp
      have hap1:=AP.out.1
      have hap2:=AP.out.2
      have hp:=HP.out
      have k3:Turned S2 w4 w5:=(Turned.alloc S2 w4 _).trans Q3.out.2 fun _ _ q=>q
      have k1:Turned S1 w3 w4:=(Turned.alloc S1 w3 _).trans Q1.out.2 fun _ _ q=>q
      refine ⟨k+1,id,fun b=>More S1 (w3.alloc (.cells #[.int .u32 (id:Nat),.string ⟨#[]⟩] 285)) b∧b<w4.heap.size,fun b=>More S2 (w4.alloc (.cells #[.int .i64 (wrap64 (sz:Int))] 3)) b∧b<w5.heap.size,by have:=G.out;omega,?_,rfl,?_,?_,?_,?_,?_,?_⟩
      ·have := H16.out; have := G.out
       simp [IntKind.wrap,IntKind.bits,IntKind.signed];omega
      ·rw [TS.out.1, chk_snoc, CK.out]
       simp [chkStep,HM.out]
      ·have q1 := Q1.out.1.bound
       have e1:ccells (bare (tabK s st k).1) ++ ccells [(id,⟨#[]⟩)]=ccells (bare (tabK s st (k+1)).1):=by
        rw [TS.out.1,←ccells_append];simp [bare]
       rw [e1]at q1
       exact q1.turned k3 fun b q z=>by
        have:=(hap2 b z);have:=q.1
        rcases q.1 with y|y
        ·exact (hap1 b y).2.2 z
        ·omega
      ·have q3 := Q3.out.1.bound
       have e1:icells (tabK s st k).1 ++ [.int .i64 (wrap64 (sz:Int))]=icells (tabK s st (k+1)).1:=by
        rw [TS.out.1,HW.out];simp [icells]
       rw [e1]at q3
       exact q3
      ·rw [TS.out.2]
       exact ((Z3.out.2.turned k1 fun q=>by have:=hap1 p q;omega).turned k3 fun q=>by have:=hap2 p q;omega)
      ·exact (((TW.out.trans Z3.out.1 fun _ _ q=>q).comp k1 fun i hi q=>q.elim (fun q=>q) fun q=>by have:=hap1 i q;omega).comp k3 fun i hi q=>q.elim (fun q=>q) fun q=>by have:=hap2 i q;omega)
      ·refine ⟨fun b q => ⟨?_, by omega, fun z => ?_⟩, fun b q => ⟨?_, q.2⟩⟩
       ·rcases q.1 with y | y
        ·exact (hap1 b y).1
        ·omega
       ·rcases z.1 with y | y
        ·rcases q.1 with x | x
         ·exact (hap1 b x).2.2 y
         ·have:=hap2 b y;omega
        ·omega
       ·rcases q.1 with y | y
        ·exact (hap2 b y).1
        ·omega
    ·have hd : decide ((id : Int) ≤ (m : Int)) = true := by simp; omega
     have hd2:decide (id≤m)=true:=by simp;omega
     have HN:Hid (progT s=none):=by
      have h1:=HC.out.1
      have hn1:chk (tabK s st n).1=none:=by
       have e1:(tabK s st n).1=(tabK s st (k+1)).1 ++ (tabK s st n).1.drop (k+1):=by
        rw [←tabK_take s st n (k+1) (by omega),List.take_append_drop]
       rw [e1]
       refine chk_none _ _ ?_
       rw [TS.out.1,chk_snoc,CK.out]
       simp [chkStep];omega
      have:progT s=none:=by
       unfold progT
       simp only [←h1]
       rw [if_neg (by have:=H16.out;omega),if_pos hn1]
      exact this
     clear hmi
     go_wp2_with (first
      |(go_at_call 123;(with_reducible refine hA.mono ?_);rintro e w2 ⟨rfl,hr2,ht2⟩;have h60:=HB.out w2 hr2;have Z2:Hid (Turned (· = p) wr w2):=ht2;clear hr2 ht2 hA)
      |(go_at_call 123;(with_reducible refine h60.mono ?_);rintro e w3 ⟨rfl,hr3,ht3⟩;have Z3:Hid (Turned (· = p) wr w3):=Z2.out.trans ht3 (fun _ _ q=>q);clear hr3 ht3 h60))
     go_ret2
     exact ⟨TW.out.trans Z3.out fun _ _ q=>q,.inl ⟨HN.out,rfl⟩⟩
   ·have hk : k = n := by have := G.out; omega
    subst hk
    clear hA HB HQ TS hlt G
    have hat:=tabK_at s st k HC.out.2.2
    have hlen:=tabK_length s st k
    have hpr:progT s=(if (dat s (tabK s st k).2 (tabK s st k).1).2.2≠0∨(dat s (tabK s st k).2 (tabK s st k).1).2.1<s.size then none else some (dat s (tabK s st k).2 (tabK s st k).1).1):=by
     have h1:=HC.out.1
     have hck:=CK.out
     unfold progT
     simp only [←h1]
     rw [if_neg (by have:=H16.out;omega),if_neg (by rw [hck];simp)]
    have HAT:Hid ((tabK s st k).2.1≤s.size∧∀ e∈(tabK s st k).1,e.2<4294967296):=⟨hat,fun e he=>(tabK_lt s st k e he).2⟩
    have HPR:Hid (progT s=(if (dat s (tabK s st k).2 (tabK s st k).1).2.2≠0∨(dat s (tabK s st k).2 (tabK s st k).1).2.1<s.size then none else some (dat s (tabK s st k).2 (tabK s st k).1).1)):=hpr
    clear hat hpr CK
    generalize (tabK s st k).2=st' at *
    generalize (tabK s st k).1=t at *
    have LN:Hid (t.length=k):=hlen
    clear hlen
    have HS2:Hid (T2 w p s st' t (.slice a1 k cap1) (.slice a2 k cap2) k (.int .i64 0) wr):=
     ⟨0,S1,S2,by rw [LN.out];omega,rfl,by rw [LN.out];simpa [dat] using L1.out,by rw [LN.out];exact L2.out,RD.out,TW.out,AP.out⟩
    clear L1 L2 RD TW AP
    go_wp2
    obtain ⟨wo,rfl⟩:∃ x:World,x=wr:=⟨wr,rfl⟩
    go_loopg [52] k (fun g i wr=>T2 w p s st' t (.slice a1 k cap1) (.slice a2 k cap2) g i wr)
    case atStart=>exact HS2.out
    case round=>
     obtain ⟨i,S3,S4,hig,rfl,hsl1,hsl2,hrd,htw,hap⟩:=hrel
     rw [LN.out]at hsl1 hsl2 hig
     have G:Hid (i+gk=k):=hig
     have L1:Hid (Sl wr S3 285 2 (.slice a1 k cap1) (ccells ((dat s st' (t.take i)).1 ++ bare (t.drop i))) k):=hsl1
     have L2:Hid (Sl wr S4 3 1 (.slice a2 k cap2) (icells t) k):=hsl2
     have RD:Hid (RdIs wr p s (dat s st' (t.take i)).2):=hrd
     have TW:Hid (Turned (· = p) w wr):=htw
     have AP:Hid (Apart w wr S3 S4):=hap
     clear hig hsl1 hsl2 hrd htw hap HS2
     have hat:=dat_at s st' (t.take i) HAT.out.1
     by_cases hlt:i<k
     ·obtain ⟨e, he⟩ : ∃ e, t[i]? = some e := ⟨_, List.getElem?_eq_getElem (by rw [LN.out]; exact hlt)⟩
      obtain ⟨g2,off2,cp2,hv2,-,-,-,hcl2,-,hg2⟩:=L2.out.opens (by omega)
      injection hv2 with e1 e2 e3
      subst e1
      subst e3
      have c0:wr.cell? ⟨g2,off2+i,none⟩=some (.int .i64 (e.2:Nat)):=by
       rw [hcl2 i (by omega)];simp [icells,he]
      have hraw:=raw_r e.2 RD.out hat HS.out (by have:=HAT.out.2 e (List.mem_of_getElem? he);omega)
      unfold RawPost at hraw
      have HE:Hid (t[i]? = some e):=he
      have hst:∀ w2,Turned (· = p) wr w2→∃ g1 off1,a1=some ⟨g1,off1,none⟩∧S3 g1∧g1<w2.heap.size∧(∃ u,w2.cell? ⟨g1,off1+i * 2+1,none⟩=some u)∧w2.frozen? ⟨g1,off1+i * 2+1,none⟩=false:=fun w2 t2=>by
       obtain ⟨g1,off1,cp1,hv1,hS,-,-,hcl1,hfr,hg1⟩:=(L1.out.turned t2 fun b q z=>by have:=AP.out.1 b q;have:=HP.out;omega).opens (by omega)
       injection hv1 with e1 e2 e3
       refine ⟨g1,off1,e1,hS,hg1,?_,hfr _⟩
       have hlen2:=L1.out.1
       refine ⟨_,(hcl1 (i * 2+1) (by omega)).trans (List.getElem?_eq_getElem (by rw [hlen2];omega))⟩
      have HST:Hid (∀ w2,Turned (· = p) wr w2→∃ g1 off1,a1=some ⟨g1,off1,none⟩∧S3 g1∧g1<w2.heap.size∧(∃ u,w2.cell? ⟨g1,off1+i * 2+1,none⟩=some u)∧w2.frozen? ⟨g1,off1+i * 2+1,none⟩=false):=hst
      have DS:Hid (dat s st' (t.take (i+1))=((dat s st' (t.take i)).1 ++ [(e.1,(rdRaw s (dat s st' (t.take i)).2 e.2).1)],(rdRaw s (dat s st' (t.take i)).2 e.2).2)):=dat_take s st' t i e he
      clear hcl2 hst he hat
      generalize rdRaw s (dat s st' (t.take i)).2 e.2=q at *
      obtain ⟨bd,stn⟩:=q
      simp only at hraw DS
      go_wp2_with (go_at_call 284;(with_reducible refine hraw.mono ?_);rintro e w2 ⟨rfl,hr2,ht2⟩;obtain ⟨g1,off1,rfl,hS1,hgl1,⟨u,hu⟩,hfz⟩:=HST.out w2 ht2;have Z2:Hid (Turned (· = p) wr w2∧RdIs w2 p s stn∧S3 g1):=⟨ht2,hr2,hS1⟩;clear ht2 hr2 hS1)
      go_roundg (gk - 1)
      case measure=>have:=G.out;omega
      case rel=>
       have hap1:=AP.out.1
       have hap2:=AP.out.2
       have hp:=HP.out
       have hgk:=G.out
       have hsl3:=L1.out.turned Z2.out.1 fun b q z=>by have:=hap1 b q;omega
       obtain ⟨q1,q2,q3⟩:=hsl3.set (i * 2+1) (by omega) (.string bd)
       rw [←Nat.add_assoc]at q1 q2 q3
       have z1:=Z2.out.1.size
       refine ⟨i+1,S3,S4,by rw [LN.out];omega,by have:=H16.out;simp [wrap64];omega,?_,?_,?_,?_,?_⟩
       ·rw [DS.out, LN.out]
        have hdr:t.drop i=e :: t.drop (i+1):=by
         have hi:=(List.getElem?_eq_some_iff.1 HE.out)
         rw [List.drop_eq_getElem_cons hi.1,hi.2]
        have hln:(dat s st' (t.take i)).1.length=i:=by rw [dat_length,List.length_take,LN.out];omega
        have h5:bare (t.drop i)=(e.1,⟨#[]⟩) :: bare (t.drop (i+1)):=by rw [hdr];rfl
        rw [h5]at q1
        have h6:=ccells_set (dat s st' (t.take i)).1 e.1 ⟨#[]⟩ bd (bare (t.drop (i+1)))
        rw [hln]at h6
        rw [h6]at q1
        exact q1
       ·rw [LN.out]
        exact ((L2.out.turned Z2.out.1 fun b q z=>by have:=hap2 b q;omega).turned q2 fun b q z=>(hap1 b z).2.2 q)
       ·rw [DS.out]
        exact Z2.out.2.1.turned q2 fun q=>by have:=hap1 p q;omega
       ·exact (TW.out.trans Z2.out.1 fun _ _ q=>q).comp q2 fun i hi q=>q.elim (fun q=>q) fun q=>by have:=hap1 i q;omega
       ·exact ⟨fun b q=>⟨(hap1 b q).1,by have:=hap1 b q;omega,(hap1 b q).2.2⟩,fun b q=>⟨(hap2 b q).1,by have:=hap2 b q;omega⟩⟩
     ·have hi : i = k := by have := G.out; omega
      subst hi
      have htk:t.take i=t:=List.take_of_length_le (by rw [LN.out];exact Nat.le_refl _)
      have hdr:t.drop i=[]:=List.drop_of_length_le (by rw [LN.out];exact Nat.le_refl _)
      rw [htk]at hat
      have hrd:=RD.out
      rw [htk]at hrd
      have hl1:=L1.out
      rw [htk,hdr]at hl1
      have hend:=end_r hrd hat HS.out
      have F1:Hid (Sl wr S3 285 2 (.slice a1 i cap1) (ccells (dat s st' t).1) i∧(dat s st' t).1.length=i):=⟨by simpa [bare] using hl1,by rw [dat_length,LN.out]⟩
      by_cases hz:(dat s st' t).2.2=0∧s.size≤(dat s st' t).2.1
      ·have HZ : Hid ((dat s st' t).2.2 = 0 ∧ s.size ≤ (dat s st' t).2.1) := hz
       have HN:Hid (progT s=some (dat s st' t).1):=by
        have:=HPR.out
        rw [if_neg (by have:=hz.1;have:=hz.2;omega)]at this
        exact this
       clear hz htk hdr hl1 hat hrd
       go_wp2_with (go_at_call 126;(with_reducible refine hend.mono ?_);rintro e w2 ⟨kk,rfl,hk,ht2⟩;obtain rfl:kk=0:=hk.2 HZ.out)
       go_ret2
       refine ⟨TW.out.trans ht2 fun _ _ q=>q,.inr ⟨_,_,HN.out,rfl,?_⟩⟩
       rw [F1.out.2]
       exact ((F1.out.1.turned ht2 fun b q z=>by have:=AP.out.1 b q;have:=HP.out;omega).widen fun b q=>(AP.out.1 b q).1)
      ·have HZ : Hid (¬ ((dat s st' t).2.2 = 0 ∧ s.size ≤ (dat s st' t).2.1)) := hz
       have HN:Hid (progT s=none):=by
        have:=HPR.out
        rw [if_pos (by omega)]at this
        exact this
       clear hz htk hdr hl1 hat hrd
       go_wp2_with (go_at_call 126;(with_reducible refine hend.mono ?_);rintro e w2 ⟨kk,rfl,hk,ht2⟩;have hk0:kk≠0:=(fun q=>HZ.out (hk.1 q));have hd:((kk:Int) == 0)=false:=(by simp;omega);clear hk)
       go_ret2
       exact ⟨TW.out.trans ht2 fun _ _ q=>q,.inl ⟨HN.out,rfl⟩⟩
end Go.Proofs.YtofcogekgcgjhaaGreatDoor
namespace Go.Proofs.YtofcogekgcgjhaaGreatDoor.Ch
open Go.RowKit Go.Mine
def magicM:List UInt8:=[80,68,71,77,1]
def rowLn (x:Ln):List UInt8:=num x.1.toNat 4 ++ num x.2.1.toNat 4 ++ num x.2.2 4
def rowsLn:List Ln→List UInt8
 | []=>[]
 |x :: l=>rowLn x ++ rowsLn l
def bodyLn (l:List Ln):List UInt8:=magicM ++ num l.length 1 ++ rowsLn l
def toldLn (l:List Ln):ByteArray:=sealed ⟨(bodyLn l).toArray⟩
def encV (l:List Ln):Value:=
 if lnErr l=0 then .tuple #[.string (toldLn l),.int .i64 0] else .tuple #[.string ⟨#[]⟩,.int .i64 (lnErr l:Nat)]
theorem rowsLn_append (a b:List Ln):rowsLn (a ++ b)=rowsLn a ++ rowsLn b:=by
 induction a with
 |nil=>rfl
 |cons x a ih=>simp [rowsLn,ih]
theorem rowsLn_length (l:List Ln):(rowsLn l).length=12 * l.length:=by
 induction l with
 |nil=>rfl
 |cons x l ih=>simp [rowsLn,rowLn,ih,num_length];omega
theorem chkLn_ok (l:List Ln):∀ pre,chkLn pre l=0→∀ x∈l,0≤x.1∧x.1≤1073741824∧1≤x.2.1∧x.2.1≤65536:=by
 induction l with
 |nil=>intro pre _ x hx;simp at hx
 |cons y l ih=>
  intro pre h x hx
  unfold chkLn at h
  split at h
  ·omega
  ·rename_i hb
   split at h
   ·omega
   ·split at h
    ·omega
    ·rcases List.mem_cons.1 hx with rfl | hx
     ·unfold badLn numb at hb
      simp at hb
      omega
     ·exact ih _ h x hx
theorem lnErr_ok (l:List Ln) (h:lnErr l=0):l.length≤8∧chkLn [] l=0∧∀ x∈l,0≤x.1∧x.1≤1073741824∧1≤x.2.1∧x.2.1≤65536:=by
 unfold lnErr at h
 split at h
 ·omega
 ·exact ⟨by omega,h,chkLn_ok l [] h⟩
def E2 (w2:World) (l:List Ln) (g:Nat) (i:Value) (wr:World):Prop:=
 ∃ j:Nat,j+g=l.length∧i = .int .i64 j∧Wr wr (fun b=>w2.heap.size≤b) w2.heap.size (magicM ++ num l.length 1 ++ rowsLn (l.take j))∧Turned (fun b=>w2.heap.size≤b) w2 wr
set_option maxHeartbeats 4000000 in
theorem encode_any (a:Option Addr) (cap:Nat) (l:List Ln) (w:World) (h:LnIs w a cap l) :
  Calls Tryz.prog 135 #[.slice a l.length cap] w fun e w'=>e = .returned (encV l)∧Turned (fun _=>False) w w':=by
 have H:Hid (LnIs w a cap l):=h
 have hck:=check_any a cap l w h
 by_cases he:lnErr l=0
 ·have HV : Hid (encV l = .tuple #[.string (toldLn l), .int .i64 0]) := by
   have:encV l = .tuple #[.string (toldLn l),.int .i64 0]:=by unfold encV;rw [if_pos he]
   exact this
  obtain ⟨h8,-,hgood⟩:=lnErr_ok l he
  rw [he]at hck
  rw [HV.out]
  obtain ⟨L,hL⟩:∃ L,L=l.length:=⟨_,rfl⟩
  rw [←hL]at hck h8 ⊢
  have HL:Hid (L=l.length):=hL
  have H8:Hid (L≤8):=h8
  have HG:Hid (∀ x∈l,0≤x.1∧x.1≤1073741824∧1≤x.2.1∧x.2.1≤65536):=hgood
  have hm5:((L:Nat):Int) % 256=(L:Int):=by omega
  clear h hL h8 hgood he
  go_enter Tryz.func135,Tryz.ntmps135
  go_wp2_with (first
   |(go_at_call 127;(with_reducible refine hck.mono ?_);rintro e w2 ⟨rfl,ht2⟩;have T2:Hid (Turned (fun _=>False) w w2):=ht2;have nw:=newWriter_any w2;clear hck ht2)
   |(go_at_call 145;(with_reducible refine nw.mono ?_);rintro e w3 ⟨rfl,hwr,ht3,hsz3⟩;have hraw:=raw_up ⟨#[80,68,71,77,1]⟩ w3 hwr (by omega) (by simp [ByteArray.size]);have Z3:Hid (w3.heap.size=w2.heap.size+1∧Turned (fun _=>False) w2 w3):=⟨hsz3,ht3⟩;clear nw hwr hsz3 ht3)
   |(go_at_call 149;(with_reducible refine hraw.mono ?_);rintro e w4 ⟨rfl,hwr4,ht4⟩;have hu8:=u8_up L w4 hwr4 (by have:=ht4.size;have:=Z3.out.1;omega) (by have:=H8.out;omega) (by simp);have Z4:Hid (Turned (fun b=>w2.heap.size≤b) w2 w4):=(Z3.out.2.mono fun _ _ q=>q.elim).trans ht4 fun _ _ q=>q;clear hraw hwr4 ht4)
   |(go_at_call 148;(with_reducible refine hu8.mono ?_);rintro e w5 ⟨rfl,hwr5,ht5⟩;have Z5:Hid (Wr w5 (fun b=>w2.heap.size≤b) w2.heap.size (magicM ++ num L 1)∧Turned (fun b=>w2.heap.size≤b) w2 w5):=⟨hwr5,Z4.out.trans ht5 fun _ _ q=>q⟩;clear hu8 hwr5 ht5))
  have HS2:Hid (E2 w2 l L (.int .i64 0) w5):=⟨0,by have:=HL.out;omega,rfl,by rw [←HL.out];simpa [rowsLn] using Z5.out.1,Z5.out.2⟩
  go_loopg [23] L (fun g i wr=>E2 w2 l g i wr)
  case atStart=>exact HS2.out
  case round=>
   obtain ⟨i,hig,rfl,hwq,htq⟩:=hrel
   rw [←HL.out]at hwq hig
   have W:Hid (Wr wr (fun b=>w2.heap.size≤b) w2.heap.size (magicM ++ num L 1 ++ rowsLn (l.take i))):=hwq
   have TQ:Hid (Turned (fun b=>w2.heap.size≤b) w2 wr):=htq
   have GI:Hid (i+gk=L):=hig
   clear hwq htq hig HS2 hm5
   have hT0:Turned (fun _=>False) w wr:=T2.out.comp TQ.out fun i hi q=>q.elim (fun q=>q) fun q=>by have:=T2.out.size;omega
   have T0:Hid (Turned (fun _=>False) w wr):=hT0
   clear hT0
   by_cases hlt:i<L
   ·obtain ⟨c, hc⟩ : ∃ c, l[i]? = some c := ⟨_, List.getElem?_eq_getElem (by rw [← HL.out]; exact hlt)⟩
    obtain ⟨b,off,rfl,hbw,c0,c1,c2⟩:=lnIs_any (H.out.turned T0.out) i c hc
    have hg:=HG.out c (List.mem_of_getElem? hc)
    have hu:=(H.out.2.2.1 c (List.mem_of_getElem? hc)).2.2
    have HC0:Hid (l[i]? = some c):=hc
    obtain ⟨cn,cc,cs⟩:=c
    simp only at hg hu c0 c1 c2
    obtain ⟨n,rfl⟩:∃ n:Nat,cn=(n:Int):=⟨cn.toNat,by omega⟩
    obtain ⟨m,rfl⟩:∃ m:Nat,cc=(m:Int):=⟨cc.toNat,by omega⟩
    have hlen:(magicM ++ num L 1 ++ rowsLn (l.take i)).length≤1000:=by
     simp only [magicM,List.length_append,List.length_cons,List.length_nil,num_length,rowsLn_length,List.length_take]
     have:=H8.out
     omega
    have hA:=u32_any n (wr.alloc (.cells #[.int .i64 (n:Int),.int .i64 (m:Int),.int .u32 (cs:Nat)] 120)) ((wr_bound W.out).turned (Turned.alloc (fun _=>False) wr _) fun _ _ q=>q) (by omega) (by omega)
    have hz:(wr.alloc (.cells #[.int .i64 (n:Int),.int .i64 (m:Int),.int .u32 (cs:Nat)] 120)).heap.size=wr.heap.size+1:=by simp
    have hcell:∀ (S:Nat→Prop) w4,¬ S wr.heap.size→Turned S (wr.alloc (.cells #[.int .i64 (n:Int),.int .i64 (m:Int),.int .u32 (cs:Nat)] 120)) w4→w4.cell? ⟨wr.heap.size,1,none⟩=some (.int .i64 (m:Int))∧w4.cell? ⟨wr.heap.size,2,none⟩=some (.int .u32 (cs:Nat))∧wr.heap.size<w4.heap.size:=fun S w4 hS t4=>by
     have hb:=fun o=>World.cell?_of_block (w':=w4) (a:=⟨wr.heap.size,o,none⟩) (t4.block wr.heap.size (by omega) hS)
     refine ⟨?_,?_,by have:=t4.size;omega⟩
     ·rw [hb];exact cell_of (heap_alloc_last wr _) 1 _ rfl
     ·rw [hb];exact cell_of (heap_alloc_last wr _) 2 _ rfl
    have HC:Hid (∀ (S:Nat→Prop) w4,¬ S wr.heap.size→Turned S (wr.alloc (.cells #[.int .i64 (n:Int),.int .i64 (m:Int),.int .u32 (cs:Nat)] 120)) w4→w4.cell? ⟨wr.heap.size,1,none⟩=some (.int .i64 (m:Int))∧w4.cell? ⟨wr.heap.size,2,none⟩=some (.int .u32 (cs:Nat))∧wr.heap.size<w4.heap.size):=hcell
    have HLN:Hid ((magicM ++ num L 1 ++ rowsLn (l.take i)).length≤1000∧n<4294967296∧m<4294967296∧cs<4294967296∧(wr.alloc (.cells #[.int .i64 (n:Int),.int .i64 (m:Int),.int .u32 (cs:Nat)] 120)).heap.size=wr.heap.size+1):=⟨hlen,by omega,by omega,hu,hz⟩
    have hm1:(n:Int) % 4294967296=(n:Int):=by omega
    have hm2:(m:Int) % 4294967296=(m:Int):=by omega
    clear hc hcell hlen hg hu hz
    go_wp2_with (first
     |(go_at_call 150;(with_reducible refine hA.mono ?_);rintro e w4 ⟨rfl,hwr4,ht4⟩;obtain ⟨f1,f2,f3⟩:=HC.out _ w4 (fun q=>by have:=q.2;omega) ht4;have hB:=u32_any m w4 hwr4 HLN.out.2.2.1 (by have:=HLN.out.1;simp only [List.length_append,num_length]at this ⊢;omega);have Z6:Hid (Turned (fun b=>w2.heap.size≤b∧b<wr.heap.size) (wr.alloc (.cells #[.int .i64 (n:Int),.int .i64 (m:Int),.int .u32 (cs:Nat)] 120)) w4):=ht4;clear hwr4 ht4 hA)
     |(go_at_call 150;(with_reducible refine hB.mono ?_);rintro e w6 ⟨rfl,hwr6,ht6⟩;have Z7:Hid (Turned (fun b=>w2.heap.size≤b∧b≠wr.heap.size) (wr.alloc (.cells #[.int .i64 (n:Int),.int .i64 (m:Int),.int .u32 (cs:Nat)] 120)) w6):=(Z6.out.mono fun b hb q=>⟨q.1,by omega⟩).trans ht6 (fun b hb q=>q.elim (fun q=>⟨q.1,by omega⟩) (fun q=>by have:=HLN.out.2.2.2.2;have:=TQ.out.size;exact ⟨by omega,by omega⟩));obtain ⟨g1,g2,g3⟩:=HC.out _ w6 (fun q=>q.2 rfl) Z7.out;have hD:=u32_up cs w6 (B:=w2.heap.size) (hwr6.widen fun b q=>by have z1:=HLN.out.2.2.2.2;have z2:=TQ.out.size;have z3:=Z6.out.size;rcases q with (q|q)|q <;> omega) (by have:=TQ.out.size;have:=Z7.out.size;have:=HLN.out.2.2.2.2;omega) HLN.out.2.2.2.1 (by have:=HLN.out.1;simp only [List.length_append,num_length]at this ⊢;omega);clear hwr6 ht6 hB)
     |(go_at_call 150;(with_reducible refine hD.mono ?_);rintro e w7 ⟨rfl,hwr7,ht7⟩))
    go_roundg (gk - 1)
    case measure=>have:=GI.out;omega
    case rel=>
     refine ⟨i+1,by have:=GI.out;have:=HL.out;omega,by have:=H8.out;simp [wrap64];omega,?_,((TQ.out.new _).trans (Z7.out.mono fun b hb q=>q.1) fun _ _ q=>q).trans ht7 fun _ _ q=>q⟩
     have e1:rowsLn (l.take (i+1))=rowsLn (l.take i) ++ (num n 4 ++ num m 4 ++ num cs 4):=by
      rw [List.take_add_one,HC0.out,rowsLn_append]
      simp [rowsLn,rowLn]
     rw [e1,←HL.out]
     simpa [List.append_assoc] using hwr7
   ·have hi : i = L := by have := GI.out; omega
    subst hi
    have htk:l.take i=l:=List.take_of_length_le (by have:=HL.out;omega)
    have hw0:=W.out
    rw [htk]at hw0
    obtain ⟨bs,hbs⟩:∃ bs,bs=magicM ++ num i 1 ++ rowsLn l:=⟨_,rfl⟩
    have hlen:bs.length≤1000:=by
     rw [hbs]
     simp only [magicM,List.length_append,List.length_cons,List.length_nil,num_length,rowsLn_length]
     have:=H8.out;have:=HL.out
     omega
    rw [←hbs]at hw0
    have HBS:Hid (toldLn l=⟨(bs ++ num (Crc.sum (nums ⟨bs.toArray⟩)) 4).toArray⟩):=by
     have hb:bodyLn l=bs:=by rw [hbs,bodyLn,HL.out]
     show toldLn l=_
     unfold toldLn
     rw [hb,sealed_bytes]
    have WB:Hid (Wr wr (fun b=>w2.heap.size≤b) w2.heap.size bs):=hw0
    have hcrc:=crcsum_lt ⟨bs.toArray⟩
    have hby:=bytes_any wr hw0
    have hsum:=sum_one wr.heap.size 0 1 ⟨bs.toArray⟩ (wr.alloc (.cells #[.string ⟨bs.toArray⟩] 9)) (cell_of (heap_alloc_last wr _) 0 _ rfl) (by simp) (by rw [ba_size];omega)
    have HLEN:Hid (bs.length≤1000∧Crc.sum (nums ⟨bs.toArray⟩)<4294967296):=⟨hlen,hcrc⟩
    clear hw0 htk hbs hlen hcrc W hlt
    go_wp2_with (first
     |(go_at_call 151;(with_reducible refine hby.mono ?_);rintro e w4 ⟨rfl,rfl⟩)
     |(go_at_call 124;(with_reducible refine hsum.mono ?_);rintro e w5 ⟨rfl,ht5⟩;have T5:Hid (Turned (fun _=>False) wr w5):=(Turned.alloc (fun _=>False) wr _).trans ht5 (fun _ _ q=>q);have hA:=u32_up (Crc.sum (nums ⟨bs.toArray⟩)) w5 (WB.out.turned T5.out fun _ _ q=>q) (by have:=TQ.out.size;have:=T5.out.size;omega) HLEN.out.2 (by have:=HLEN.out.1;omega);clear hsum ht5)
     |(go_at_call 150;(with_reducible refine hA.mono ?_);rintro e w6 ⟨rfl,hwr6,ht6⟩;have hby2:=bytes_any w6 hwr6)
     |(go_at_call 151;(with_reducible refine hby2.mono ?_);rintro e w7 ⟨rfl,rfl⟩))
    go_ret2
    refine ⟨by rw [HBS.out];rfl,?_⟩
    have q1:Turned (fun b=>w2.heap.size≤b) w2 w6:=(TQ.out.trans (T5.out.mono fun _ _ q=>q.elim) fun _ _ q=>q).trans ht6 fun _ _ q=>q
    exact T2.out.comp q1 fun i hi q=>q.elim (fun q=>q) fun q=>by have:=T2.out.size;omega
 ·have HV : Hid (encV l = .tuple #[.string ⟨#[]⟩, .int .i64 (lnErr l : Nat)]) := by
   have:encV l = .tuple #[.string ⟨#[]⟩,.int .i64 (lnErr l:Nat)]:=by unfold encV;rw [if_neg he]
   exact this
  rw [HV.out]
  have hd5:((lnErr l:Int) == 0)=false:=by simp;omega
  generalize lnErr l=k at *
  generalize l.length=L at *
  clear h he
  go_enter Tryz.func135,Tryz.ntmps135
  go_wp2_with (go_at_call 127;(with_reducible refine hck.mono ?_);rintro e w2 ⟨rfl,ht2⟩)
  go_ret2
  exact ⟨rfl,ht2⟩
end Go.Proofs.YtofcogekgcgjhaaGreatDoor.Ch
