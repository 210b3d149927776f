/- Packed. -/
import Derived.Test.YtofcogekgcgjhaaGreatDoorZzaw
import Derived.Deep.RegionHeld3
set_option linter.unusedVariables false
set_option linter.unusedSimpArgs false
set_option maxRecDepth 100000
namespace Go.Mine.Ac
open Go.Mine
theorem alikeL_le:∀ (a b:List UInt8),alikeL a b≤a.length∧alikeL a b≤b.length
 | [],b=>by simp [alikeL]
 |x :: a,[]=>by simp [alikeL]
 |x :: a,y :: b=>by
  rw [alikeL]
  have:=alikeL_le a b
  split <;> simp <;> omega
theorem alikeL_get:∀ (a b:List UInt8) (j:Nat),j<alikeL a b→a[j]? = b[j]?
 | [],b,j,h=>by simp [alikeL]at h
 |x :: a,[],j,h=>by simp [alikeL]at h
 |x :: a,y :: b,j,h=>by
  rw [alikeL]at h
  split at h
  ·rename_i q
   cases j with
   |zero=>simp [q]
   |succ j=>simpa using alikeL_get a b j (by omega)
  ·omega
theorem alikeL_stop:∀ (a b:List UInt8),alikeL a b<a.length→alikeL a b<b.length→a[alikeL a b]? ≠ b[alikeL a b]?
 | [],b,h,_=>by simp at h
 |x :: a,[],_,h=>by simp at h
 |x :: a,y :: b,h1,h2=>by
  rw [alikeL]at h1 h2 ⊢
  split
  ·rename_i q
   rw [if_pos q]at h1 h2
   simpa using alikeL_stop a b (by simpa using h1) (by simpa using h2)
  ·rename_i q
   simpa using q
theorem alikeL_more {a b:List UInt8} {i:Nat} (h:i≤alikeL a b) {c:UInt8} (ha:a[i]? = some c) (hb:b[i]? = some c):i+1≤alikeL a b:=by
 rcases Nat.lt_or_eq_of_le h with q|q
 ·exact q
 ·subst q
  have h1:=(List.getElem?_eq_some_iff.1 ha).1
  have h2:=(List.getElem?_eq_some_iff.1 hb).1
  exact absurd (ha.trans hb.symm) (alikeL_stop a b h1 h2)
theorem alikeL_end {a b:List UInt8} {i:Nat} (h:i≤alikeL a b) (hs:a.length≤i∨b.length≤i∨a[i]? ≠ b[i]?):alikeL a b=i:=by
 have h1:=alikeL_le a b
 rcases hs with q|q|q
 ·omega
 ·omega
 ·rcases Nat.lt_or_eq_of_le h with z | z
  ·exact absurd (alikeL_get a b i z) q
  ·exact z.symm
def TreeOk (t:List Ent):Prop:=t.length≤1024∧checkT none t=0
theorem checkT_each:∀ (l:List Ent) (p:Option ByteArray),checkT p l=0→∀ x∈l,x.1.size≤255∧x.2≠0
 | [],_,_,x,hx=>by simp at hx
 |y :: l,p,h,x,hx=>by
  rw [checkT.eq_def]at h
  simp only []at h
  split at h
  ·simp at h
  rename_i h1
  split at h
  ·simp at h
  rename_i h2
  have hl:checkT (some y.1) l=0:=by
   cases p with
   |none=>exact h
   |some q=>
    simp only []at h
    split at h
    ·simp at h
    split at h
    ·simp at h
    ·exact h
  rcases List.mem_cons.1 hx with rfl|hx
  ·exact ⟨by omega,h2⟩
  ·exact checkT_each l _ hl x hx
theorem entB_len (last:ByteArray) (x:Ent) (h:x.1.size≤255):(entB last x).length≤261:=by
 unfold entB
 have h1:x.1.data.toList.length=x.1.size:=by simp
 simp only [List.length_append,num_length,List.length_drop]
 omega
theorem entsB_len:∀ (l:List Ent) (last:ByteArray),(∀ x∈l,x.1.size≤255)→(entsB last l).length≤261 * l.length
 | [],_,_=>by simp [entsB]
 |x :: l,last,h=>by
  rw [entsB,List.length_append,List.length_cons]
  have h1:=entB_len last x (h x (List.mem_cons_self ..))
  have h2:=entsB_len l x.1 fun y hy=>h y (List.mem_cons_of_mem _ hy)
  omega
theorem entsB_app:∀ (l:List Ent) (last:ByteArray) (x:Ent),entsB last (l ++ [x])=entsB last l ++ entB ((l.getLast?.map (·.1)).getD last) x
 | [],last,x=>by simp [entsB]
 |y :: l,last,x=>by
  rw [List.cons_append,entsB,entsB,entsB_app l y.1 x,List.append_assoc]
  congr 3
  cases l with
  |nil=>simp
  |cons z l=>
   simp only [List.getLast?_cons_cons]
   cases h:(z :: l).getLast? with
   |none=>simp at h
   |some q=>rfl
theorem toldT_len {t:List Ent} (h:TreeOk t):(toldT t).length≤267266:=by
 unfold toldT
 rw [List.length_append,num_length]
 have h1:=entsB_len t ⟨#[]⟩ fun x hx=>(checkT_each t none h.2 x hx).1
 have h2:=h.1
 omega
end Go.Mine.Ac
namespace Go.Proofs.YtofcogekgcgjhaaGreatDoor
open Go.RowKit Go.Mine Go.Mine.Ac
theorem sl_none {w:World} {S:Nat→Prop} {e:TypeId} {size n cap:Nat} {a:Option Addr} {xs:List Value} (h:Sl w S e size (.slice a n cap) xs n) (ha:a=none):n=0:=by
 subst ha
 rcases h.2 with ⟨-,h⟩|⟨g,off,cap,cur,h1,-⟩
 ·exact h
 ·simp at h1
theorem info240:(Tryz.prog.info? 240).map (fun i=>(i.zero,i.size,i.bytes))=some (some (.agg #[.string ⟨#[]⟩,.string ⟨#[]⟩,.int .i64 0]),3,40):=by kernel_rfl
def RkPost (w:World) (rl:Nat→Nat) (r:Nat) (D' : Dk) (w' : World):Prop:=
 ∃ rl' fv' sv' av' pv',RkAt w' rl' r fv' sv' av' pv' D'∧(∀ b,rl' b≠0→rl b≠0∨w.heap.size≤b)∧Turned (fun b=>rl b≠0) w w'
section
variable {w w' : World} {rl:Nat→Nat} {r:Nat} {fv sv av pv:Value} {D D' : Dk}
theorem RkPost.after {w1:World} (h:RkPost w1 rl r D' w') (ht:Turned (fun b=>rl b≠0) w w1):RkPost w rl r D' w':=by
 obtain ⟨rl',fv',sv',av',pv',h1,h2,h3⟩:=h
 exact ⟨rl',fv',sv',av',pv',h1,fun b hb=>(h2 b hb).elim .inl fun q=>.inr (Nat.le_trans ht.size q),ht.trans h3 fun _ _ q=>q⟩
theorem RkPost.draw (h:RkPost w rl r D' w'):RkPost w rl r D' w'.drew:=by
 obtain ⟨rl',fv',sv',av',pv',h1,h2,h3⟩:=h
 exact ⟨rl',fv',sv',av',pv',h1.turned (Turned.drew (fun _=>False) _) fun _ _ q=>q,h2,h3.draw⟩
theorem RkAt.post (h:RkAt w' rl r fv sv av pv D') (ht:Turned (fun b=>rl b≠0) w w'):RkPost w rl r D' w':=⟨rl,fv,sv,av,pv,h,fun b hb=>.inl hb,ht⟩
theorem RkPost.from {W:World} {rl2:Nat→Nat} (h:RkPost W rl2 r D' w') (hr:∀ b,rl2 b≠0→rl b≠0∨w.heap.size≤b) (ht:Turned (fun b=>rl b≠0) w W):RkPost w rl r D' w':=by
 obtain ⟨r2,fv',sv',av',pv',h1,h2,h3⟩:=h
 refine ⟨r2,fv',sv',av',pv',h1,fun b hb=>(h2 b hb).elim (hr b) fun q=>.inr (Nat.le_trans ht.size q),ht.comp h3 fun i hi q=>q.elim id fun q=>(hr i q).elim id fun q=>by omega⟩
theorem RkAt.keepR (h:RkAt w rl r fv sv av pv D) (w' : World) (k:Nat):∀ b,rl b≠0→newR rl w w' k b=rl b:=fun b hb=>newR_old (h.bnd b hb)
theorem RkAt.setSeen {w2:World} {l:Nms} {v2:Value} (h:RkAt w rl r fv sv av pv D) (ht:Turned (fun _=>False) w w2) (hs:Sl w2 (fun b=>w.heap.size≤b) 242 2 v2 (ncellsR l) l.length) :
  RkAt (w2.setCell ⟨r,2,none⟩ v2) (newR rl w w2 3) r fv v2 av pv { D with seen:=l }∧Turned (· = r) w (w2.setCell ⟨r,2,none⟩ v2):=by
 have t2:Turned (· = r) w2 (w2.setCell ⟨r,2,none⟩ v2):=Turned.setCell (S:=(· = r)) (p:=⟨r,2,none⟩) rfl _
 have T:Turned (· = r) w (w2.setCell ⟨r,2,none⟩ v2):=ht.comp t2 fun i _ q=>q.elim False.elim id
 have K:=h.keepR w2 3
 have r1:=h.r1
 have hne:∀ b,rl b≠0→rl b≠1→¬ b=r:=fun b _ hb q=>hb (q ▸ r1)
 have hlt:=h.bnd r (by rw [r1];decide)
 refine ⟨⟨(K _ (by omega)).trans r1,?_,?_,?_,?_,?_,fun b hb=>by rw [setCell_size];exact newR_bnd hb ht.size⟩,T⟩
 ·have hb : w2.heap[r]? = _ := (ht.block r hlt id).trans h.blk
  have:=Go.Mine.heap_setCell_same hb (o:=2) v2
  simpa [Blk] using this
 ·exact (h.files.turned T fun b hb=>hne b (by omega) (by omega)).widen fun b hb=>(K b (by omega)).trans hb
 ·exact sl_widenB (hs.turned t2 fun b hb q=>by omega) fun b hb q=>newR_new q (by rw [setCell_size]at hb;exact hb)
 ·exact (h.safe.turned T fun b hb=>hne b (by omega) (by omega)).widen fun b hb=>(K b (by omega)).trans hb
 ·exact (h.pend.turned T fun b hb=>hne b (by omega) (by omega)).widen fun b hb=>(K b (by omega)).trans hb
theorem RkAt.addPend {w3:World} {c:Chg} {v' : Value} {o:Obj} (h:RkAt w rl r fv sv av pv D) (h3:Turned (fun b=>rl b=5) (w.alloc o).drew w3)
  (hs:Sl w3 (More (fun b=>rl b=5) (w.alloc o).drew) 240 3 v' (ccellsR D.pend ++ [.string c.gone,.string c.come,.int .i64 (c.file:Nat)]) (D.pend.length+1)) :
  RkPost w rl r { D with pend:=D.pend ++ [c] } (w3.setCell ⟨r,4,none⟩ v'):=by
 have r1:=h.r1
 have T3:Turned (fun b=>rl b=5) w w3:=((Turned.alloc (fun b=>rl b=5) w o).draw).trans h3 fun _ _ q=>q
 have t2:Turned (· = r) w3 (w3.setCell ⟨r,4,none⟩ v'):=Turned.setCell (S:=(· = r)) (p:=⟨r,4,none⟩) rfl _
 have T:Turned (fun b=>b=r∨rl b=5) w (w3.setCell ⟨r,4,none⟩ v'):=T3.comp t2 fun i _ q=>q.elim .inr .inl
 have K:=h.keepR w3 5
 have hlt:=h.bnd r (by rw [r1];decide)
 have hne:∀ b,rl b≠0→rl b≠1→rl b≠5→¬ (b=r∨rl b=5):=fun b _ h1 h5 q=>q.elim (fun q=>h1 (q ▸ r1)) h5
 have es:(w.alloc o).drew.heap.size=w.heap.size+1:=by
  show (w.alloc o).heap.size=_
  simp
 refine ⟨newR rl w w3 5,fv,sv,av,v',⟨(K _ (by omega)).trans r1,?_,?_,?_,?_,?_,fun b hb=>by rw [setCell_size];exact newR_bnd hb T3.size⟩,fun b hb=>newR_or hb,T.mono fun i _ q=>q.elim (fun q=>by rw [q,r1];decide) fun q=>by omega⟩
 ·have hb : w3.heap[r]? = _ := (T3.block r hlt (by rw [r1]; decide)).trans h.blk
  have:=Go.Mine.heap_setCell_same hb (o:=4) v'
  simpa [Blk] using this
 ·exact (h.files.turned T fun b hb=>hne b (by omega) (by omega) (by omega)).widen fun b hb=>(K b (by omega)).trans hb
 ·exact (h.seen.turned T fun b hb=>hne b (by omega) (by omega) (by omega)).widen fun b hb=>(K b (by omega)).trans hb
 ·exact (h.safe.turned T fun b hb=>hne b (by omega) (by omega) (by omega)).widen fun b hb=>(K b (by omega)).trans hb
 ·show Sl _ _ 240 3 v' (ccellsR (D.pend ++ [c])) (D.pend ++ [c]).length
  rw [ccellsR_app,List.length_append]
  have:ccellsR [c]=[.string c.gone,.string c.come,.int .i64 (c.file:Nat)]:=rfl
  rw [this]
  refine sl_widenB (hs.turned t2 fun b hb q=>?_) fun b hb q=>?_
  ·rcases hb with hb | hb
   ·rw [q,r1]at hb;omega
   ·omega
  ·rcases q with q | q
   ·exact (newR_old (h.bnd b (by omega))).trans q
   ·exact newR_new (by omega) (by rw [setCell_size]at hb;exact hb)
end
set_option maxHeartbeats 1000000 in
theorem kchange_any {w:World} {rl:Nat→Nat} {r:Nat} {fv sv av pv:Value} {D:Dk} (h:RkAt w rl r fv sv av pv D) (c:Chg) (hl:D.seen.length≤100000) (hp:D.pend.length≤1000000000) :
  Calls Tryz.prog 170 #[pt r,.agg #[.string c.gone,.string c.come,.int .i64 (c.file:Nat)]] w fun e w'=>e = .returned (.tuple #[])∧RkPost w rl r (D.change c) w':=by
 obtain ⟨cg,hcg⟩:∃ x,x=c.gone:=⟨_,rfl⟩
 obtain ⟨cc,hcc⟩:∃ x,x=c.come:=⟨_,rfl⟩
 obtain ⟨cf,hcf⟩:∃ x,x=c.file:=⟨_,rfl⟩
 have HC:Hid (cg=c.gone∧cc=c.come∧cf=c.file):=⟨hcg,hcc,hcf⟩
 have hlt:=h.bnd r (by rw [h.r1];decide)
 obtain ⟨w1,hw1⟩:∃ w1,w1=w.alloc (.cells #[.string c.gone,.string c.come,.int .i64 (c.file:Nat)] 240):=⟨_,rfl⟩
 have T1:Turned (fun _=>False) w w1:=by rw [hw1];exact Turned.alloc _ _ _
 have hbx:w1.heap[w.heap.size]? = some (.cells #[.string c.gone,.string c.come,.int .i64 (c.file:Nat)] 240):=by rw [hw1];exact Go.Mine.heap_alloc_new _ _
 have h1:RkAt w1 rl r fv sv av pv D:=h.turned T1 fun _ _ q=>q
 obtain ⟨B,hB⟩:∃ B,B=w.heap.size:=⟨_,rfl⟩
 have hzB:rl B=0:=by
  by_cases q:rl B=0
  ·exact q
  ·have:=h.bnd B q;omega
 rw [←hB]at hbx
 have HCH:Hid (∀ W,Turned (fun _=>False) w1 W→Calls Tryz.prog 165 #[sv,.agg #[.string cg,.string cc,.int .i64 (cf:Nat)]] W fun e w'=>∃ a2 n2 cap2,e = .returned (.slice a2 n2 cap2)∧RkAt (w'.setCell ⟨r,2,none⟩ (.slice a2 n2 cap2)) (newR rl W w' 3) r fv (.slice a2 n2 cap2) av pv { D with seen:=changed D.seen c }∧Turned (· = r) W (w'.setCell ⟨r,2,none⟩ (.slice a2 n2 cap2))∧(w'.cell? ⟨B,0,none⟩=some (.string cg)∧w'.cell? ⟨B,1,none⟩=some (.string cc)∧w'.cell? ⟨B,2,none⟩=some (.int .i64 (cf:Nat))∧w'.cell? ⟨r,2,none⟩=some sv∧w'.frozen? ⟨r,2,none⟩=false)):=hidS fun W hW=>by
  have hh:=h1.turned hW fun _ _ q=>q
  have:=kchanged_any c W hh.seen hl
  rw [hcg,hcc,hcf]
  refine this.mono ?_
  rintro e w' ⟨v,rfl,q1,q2⟩
  obtain ⟨a2,cap2,hv,-,-⟩:=q1.value
  subst hv
  obtain ⟨k1,k2⟩:=hh.setSeen q2 q1
  have hb2:=boxed (boxed hbx hW id) q2 id
  have hr2:=boxed hh.blk q2 id
  exact ⟨a2,_,cap2,rfl,k1,k2,cell_of hb2 0 _ rfl,cell_of hb2 1 _ rfl,cell_of hb2 2 _ rfl,cell_of hr2 2 _ rfl,free_of hr2 2⟩
 have KS:Hid (∀ W,Turned (fun _=>False) w1 W→W.cell? ⟨B,0,none⟩=some (.string cg)∧W.cell? ⟨B,1,none⟩=some (.string cc)∧W.cell? ⟨B,2,none⟩=some (.int .i64 (cf:Nat))∧W.cell? ⟨r,2,none⟩=some sv):=hidS fun W hW=>by
  have hb2:=boxed hbx hW id
  rw [hcg,hcc,hcf]
  exact ⟨cell_of hb2 0 _ rfl,cell_of hb2 1 _ rfl,cell_of hb2 2 _ rfl,cell_of (boxed h1.blk hW id) 2 _ rfl⟩
 have HX:Hid (Turned (fun _=>False) w w1∧rl r=1∧rl B=0∧D.pend.length≤1000000000∧w1.heap[B]? = some (.cells #[.string c.gone,.string c.come,.int .i64 (c.file:Nat)] 240)∧B=w.heap.size):=⟨T1,h.r1,hzB,hp,hbx,hB⟩
 have V0:Turned (fun _=>False) w1 w1.drew:=Turned.drew _ _
 rw [←hcg,←hcc,←hcf]at hw1 ⊢
 have hw1':=hw1.symm
 have hwB:w.heap.size=B:=hB.symm
 clear hcg hcc hcf hbx T1 h h1 hzB hB hw1 hl hp
 go_enter Tryz.func170,Tryz.ntmps170
 go_wp2
 clear hw1' hwB
 obtain ⟨x0,x1,x2,x3⟩:=KS.out w1 (Turned.refl _ _)
 have rl1:r<w1.heap.size:=by have:=lt_of_cell x3;exact this
 go_region_law (first|(go_simp;go_at_call 165;(refine (HCH.out _ V0).mono ?_);rintro e w2 ⟨a2,n2,cap2,rfl,q1,q2,q3,q4,q5,q6,q7⟩;have Q1:Hid _:=hidS q1;have Q2:Hid (Turned (· = r) _ _):=q2;clear q1 q2))
 all_goals go_wp2
 all_goals
  generalize w2.setCell ⟨r,2,none⟩ (.slice a2 n2 cap2)=wA at *
  obtain ⟨rl1,hrl1⟩:∃ rl1,rl1=newR rl w1.drew w2 3:=⟨_,rfl⟩
  have QA:=Q1.out
  have QB:=Q2.out
  rw [←hrl1]at QA
  have HRL:Hid (rl1=newR rl w1.drew w2 3):=hrl1
  have y4:=cell_of QA.blk 4 _ rfl
  have g4:=free_of QA.blk 4
  have rlA:=lt_of_block QA.blk
  obtain ⟨a4,cap4,hpv,-,-⟩:=QA.pend.value
  have hBr:B≠r:=fun q=>by have h1:=HX.out.2.1;have h2:=HX.out.2.2.1;rw [q,h1]at h2;omega
  have zb:=(QB.block B (by have:=lt_of_block HX.out.2.2.2.2.1;exact this) hBr).trans HX.out.2.2.2.2.1
  rw [←HC.out.1,←HC.out.2.1,←HC.out.2.2]at zb
  have z0:=cell_of zb 0 _ rfl
  have z1:=cell_of zb 1 _ rfl
  have z2:=cell_of zb 2 _ rfl
  have zl:=lt_of_block zb
  have HQA:Hid _:=hidS QA
  have HQB:Hid _:=hidS QB
  obtain ⟨n,hn⟩:∃ n,n=D.pend.length:=⟨_,rfl⟩
  have HNN:Hid (n=D.pend.length):=hn
  have hpv2:pv = .slice a4 n cap4:=by rw [hn];exact hpv
  subst hpv2
  have HSL:Hid (Sl ((wA.alloc (.cells #[.string cg,.string cc,.int .i64 (cf:Nat)] 240)).drew) (fun b=>rl1 b=5) 240 3 (.slice a4 n cap4) (ccellsR D.pend) n):=hidS (by
   have:=HQA.out.pend
   rw [hn]
   rw [hn]at this
   exact (this.turned (Turned.alloc (fun _=>False) _ _) fun _ _ q=>q).drew)
  have HSRC:Hid (Src Tryz.prog 3 198 (.slice (some ⟨wA.heap.size,0,none⟩) 1 1) 1 [.string cg,.string cc,.int .i64 (cf:Nat)] ((wA.alloc (.cells #[.string cg,.string cc,.int .i64 (cf:Nat)] 240)).drew)):=hidS (src_newD 240 Tryz.underlying198 [.string cg,.string cc,.int .i64 (cf:Nat)] (by simp [Value.oneCell']) wA)
  have m1:Hid (n+1≤maxLen∧(n+1) * 40≤140737488355328):=hidS (by have:=HX.out.2.2.2.1;exact ⟨by simp only [maxLen];omega,by omega⟩)
  have K3:Hid (∀ w3,Turned (fun b=>rl1 b=5) (wA.alloc (.cells #[.string cg,.string cc,.int .i64 (cf:Nat)] 240)).drew w3→w3.cell? ⟨r,4,none⟩=some (.slice a4 n cap4)∧w3.frozen? ⟨r,4,none⟩=false∧r<w3.heap.size∧w3.cell? ⟨B,0,none⟩=some (.string cg)∧w3.cell? ⟨B,1,none⟩=some (.string cc)∧w3.cell? ⟨B,2,none⟩=some (.int .i64 (cf:Nat))):=hidS fun w3 ht=>by
   have e1:w3.heap[r]? = _:=(ht.block r (by show r<(wA.alloc _).heap.size;simp;omega) (by rw [HQA.out.r1];decide)).trans ((alloc_old _ rlA).trans HQA.out.blk)
   have hB5:rl1 B≠5:=by
    have e:newR rl w1.drew w2 3 B=rl B:=newR_old (show B<w1.drew.heap.size from lt_of_block HX.out.2.2.2.2.1)
    rw [HRL.out,e,HX.out.2.2.1]
    decide
   have e2:w3.heap[B]? = _:=(ht.block B (by show B<(wA.alloc _).heap.size;simp;omega) hB5).trans ((alloc_old _ zl).trans zb)
   exact ⟨cell_of e1 4 _ rfl,free_of e1 4,lt_of_block e1,cell_of e2 0 _ rfl,cell_of e2 1 _ rfl,cell_of e2 2 _ rfl⟩
  clear Q1 Q2 QA QB hrl1 hpv zb hn HCH KS V0 x0 x1 x2 x3 q3 q4 q5 q6 q7
  go_region_law ((refine step_append (by rfl) _ _ 198 198 (by rfl) HSL.out Tryz.underlying198 info240 rfl (by decide) (by rfl) (.slice (some ⟨wA.heap.size,0,none⟩) 1 1) (by rfl) HSRC.out m1.out.1 m1.out.2 ?_;intro v' w3 hsl ht3;obtain ⟨a3,cap3,hv3,-,-⟩:=hsl.value;subst hv3;obtain ⟨j0,j1,j2,j3,j4,j5⟩:=K3.out w3 ht3;have HQ:Hid (Sl w3 _ 240 3 _ _ (n+1)∧Turned _ _ w3):=⟨hsl,ht3⟩;clear hsl ht3))
 all_goals go_wp2
 all_goals go_end0
 all_goals
  refine ⟨rfl,?_⟩
  have hh:=RkAt.addPend (c:=c) HQA.out HQ.out.2 (by rw [←HC.out.1,←HC.out.2.1,←HC.out.2.2,←HNN.out];exact HQ.out.1)
  refine RkPost.from (D':=D.change c) hh (fun b hb=>?_) ((HX.out.1.draw).comp HQB.out fun i _ q=>q.elim False.elim fun q=>by rw [q,HX.out.2.1];decide)
  rw [HRL.out]at hb
  exact (newR_or hb).elim .inl fun q=>.inr (Nat.le_trans HX.out.1.size q)
end Go.Proofs.YtofcogekgcgjhaaGreatDoor
namespace Go.Proofs.YtofcogekgcgjhaaGreatDoor
open Go.RowKit Go.Mine Go.Mine.Ac
theorem kseen {D:Dk} (hok:D.Ok):D.seen.length≤100000:=Nat.le_trans hok.seenOk.many (by decide)
theorem RkAt.mine {w w' : World} {rl:Nat→Nat} {r:Nat} {fv sv av pv:Value} {D:Dk} (h:RkAt w rl r fv sv av pv D) (ht:Turned (· = r) w w'):Turned (fun b=>rl b≠0) w w':=
 ht.mono fun i _ q=>by rw [q,h.r1];decide
theorem kstep_two {w:World} {rl:Nat→Nat} {r:Nat} {fv sv av pv:Value} {D:Dk} (h:RkAt w rl r fv sv av pv D) (hok:D.Ok) :
  (D.falls=1→∀ W,Turned (fun _=>False) w W→Calls Tryz.prog 169 #[pt r] W fun e w'=>e = .returned (.int .i64 8)∧RkPost w rl r { D with falls:=0,off:=true } w') ∧
  (D.falls≠1→∀ W,Turned (fun _=>False) w W→Calls Tryz.prog 169 #[pt r] W fun e w'=>e = .returned (.int .i64 0)∧RkAt w' rl r fv sv av pv { D with falls:=D.falls - 1 }∧Turned (fun b=>rl b≠0) w w'):=by
 constructor
 ·intro h1 W ht
  have h2:=h.turned ht fun _ _ q=>q
  rcases D.step_cases with ⟨q,-⟩|⟨-,q⟩
  ·exact absurd h1 q
  ·refine (kstep_any h2 hok.fall).mono fun e w' ⟨a1, a2, a3⟩ => ?_
   rw [q]at a1 a2
   exact ⟨a1,a2.post ((ht.mono fun _ _ q=>q.elim).trans (h2.mine a3) fun _ _ q=>q)⟩
 ·intro h1 W ht
  have h2:=h.turned ht fun _ _ q=>q
  rcases D.step_cases with ⟨-,q⟩|⟨q,-⟩
  ·refine (kstep_any h2 hok.fall).mono fun e w' ⟨a1, a2, a3⟩ => ?_
   rw [q]at a1 a2
   exact ⟨a1,a2,(ht.mono fun _ _ q=>q.elim).trans (h2.mine a3) fun _ _ q=>q⟩
  ·exact absurd q h1
theorem RkAt.fileCell {w w' : World} {rl:Nat→Nat} {r:Nat} {fv sv av pv:Value} {D:Dk} (h:RkAt w rl r fv sv av pv D) (ht:Turned (fun _=>False) w w') {k:Nat} {x:Fl} (hx:D.files[k]? = some x) :
  ∃ g off cap,fv = .slice (some ⟨g,off,none⟩) D.files.length cap∧k<D.files.length∧w'.cell? ⟨g,off+k * 2,none⟩=some (.string x.bytes)∧w'.cell? ⟨g,off+k * 2+1,none⟩=some (.int .i64 (x.safe:Nat))∧w'.cell? ⟨r,1,none⟩=some fv:=by
 have hj:=(List.getElem?_eq_some_iff.1 hx).1
 have h':=h.turned ht fun _ _ q=>q
 obtain ⟨g,off,cap,hv,-,-,-,hcell,-,-⟩:=h'.files.opens (by omega)
 obtain ⟨e1,e2⟩:=fcellsR_get hx
 refine ⟨g,off,cap,hv,hj,?_,?_,cell_of h'.blk 1 _ rfl⟩
 ·rw [hcell _ (by omega),Nat.mul_comm];exact e1
 ·rw [Nat.add_assoc,hcell _ (by omega),Nat.mul_comm];exact e2
theorem kread_any {w:World} {rl:Nat→Nat} {r:Nat} {fv sv av pv:Value} {D:Dk} (h:RkAt w rl r fv sv av pv D) (hok:D.Ok) (name:ByteArray) :
  Calls Tryz.prog 182 #[pt r,.string name] w fun e w'=>e = .returned (.tuple #[.string (D.read name).1,.int .i64 ((D.read name).2:Nat)])∧Turned (fun _=>False) w w':=by
 have hfi:=kfile_any h (kseen hok) name
 cases hf:D.file name with
 |error k=>
  have HK:Hid (k≠0):=file_err hf
  have HR:Hid (D.read name=(emp,k)):=hidS (by simp [Dk.read,hf])
  have hk0:((k:Int) != 0)=true:=by have:=HK.out;simp;omega
  rw [hf]at hfi
  replace hfi:Calls Tryz.prog 167 #[pt r,.string name] w fun e w'=>e = .returned (.tuple #[.int .i64 0,.int .i64 (k:Nat)])∧Turned (fun _=>False) w w':=hfi
  rw [HR.out]
  clear h hf hok
  go_enter Tryz.func182,Tryz.ntmps182
  go_wp2_with (go_at_call 167;(with_reducible refine hfi.mono ?_);rintro e w2 ⟨rfl,q⟩;replace q:Hid _:=hidS q)
  go_ret2
  exact ⟨rfl,q.out⟩
 |ok k=>
  obtain ⟨x,h1,h2,h3⟩:=hok.at_lt (Dk.file_live hf)
  have HR:Hid (D.read name=(x.bytes,0)):=hidS (by simp [Dk.read,hf,h2])
  obtain ⟨g,off,cap,hv,hkl,-⟩:=h.fileCell (Turned.refl _ _) h1
  have KF:Hid (∀ w',Turned (fun _=>False) w w'→w'.cell? ⟨g,off+k * 2,none⟩=some (.string x.bytes)∧w'.cell? ⟨r,1,none⟩=some fv):=hidS fun w' ht=>by
   obtain ⟨g',off',cap',hv',-,e1,-,e2⟩:=h.fileCell ht h1
   rw [hv]at hv'
   simp only [Value.slice.injEq,Option.some.injEq,Addr.mk.injEq]at hv'
   obtain ⟨⟨rfl,rfl,-⟩,-,-⟩:=hv'
   exact ⟨e1,e2⟩
  rw [hf]at hfi
  replace hfi:Calls Tryz.prog 167 #[pt r,.string name] w fun e w'=>e = .returned (.tuple #[.int .i64 (k:Nat),.int .i64 0])∧Turned (fun _=>False) w w':=hfi
  rw [HR.out]
  rw [hv]at KF
  generalize D.files.length=N at *
  clear h hf hok h1 h2 h3 hv
  go_enter Tryz.func182,Tryz.ntmps182
  go_wp2_with (go_at_call 167;(with_reducible refine hfi.mono ?_);rintro e w2 ⟨rfl,q⟩;obtain ⟨k1,k2⟩:=KF.out _ q;replace q:Hid _:=hidS q)
  go_ret2
  exact ⟨rfl,q.out⟩
def KnewPost (w:World) (q:Int) (e:Ending) (w' : World):Prop:=
 (newDk q=none∧e = .returned (.tuple #[.pointer none,.int .i64 1])∧w'=w) ∨
 ∃ D d,newDk q=some D∧e = .returned (.tuple #[pt d,.int .i64 0])∧RkIs w' (fun b=>w.heap.size≤b) d D∧Turned (fun _=>False) w w'
theorem knew_any (q:Int) (w:World):Calls Tryz.prog 56 #[.int .i64 q] w (KnewPost w q):=by
 obtain ⟨P,hP⟩:∃ P,P=KnewPost w q:=⟨_,rfl⟩
 have HP:Hid (P=KnewPost w q):=hP
 rw [←hP]
 clear hP
 by_cases h1:q<0
 ·have HN : Hid (newDk q = none) := hidS (by simp [newDk, h1])
  have e1:decide (q<0)=true:=decide_eq_true h1
  clear h1
  go_enter Tryz.func56,Tryz.ntmps56
  go_wp2
  rw [HP.out]
  exact .inl ⟨HN.out,rfl,rfl⟩
 by_cases h2:16777216<q
 ·have HN : Hid (newDk q = none) := hidS (by simp [newDk, h2])
  have e1:decide (q<0)=false:=decide_eq_false h1
  have e2:decide ((16777216:Int)<q)=true:=decide_eq_true h2
  clear h1 h2
  go_enter Tryz.func56,Tryz.ntmps56
  go_wp2
  rw [HP.out]
  exact .inl ⟨HN.out,rfl,rfl⟩
 ·obtain ⟨m, rfl⟩ : ∃ m : Nat, q = (m : Nat) := ⟨q.toNat, by omega⟩
  have HN:Hid (newDk (m:Nat)=some ⟨m,[],[],[],[],0,false⟩):=hidS (by
   unfold newDk
   rw [if_neg (by rintro (z|z) <;> omega)]
   simp)
  have e1:decide ((m:Int)<0)=false:=decide_eq_false h1
  have e2:decide ((16777216:Int)<(m:Int))=false:=decide_eq_false h2
  have e3:decide (16777216<m)=false:=decide_eq_false (by omega)
  clear h1 h2
  go_enter Tryz.func56,Tryz.ntmps56
  go_wp2
  rw [HP.out]
  refine .inr ⟨_,w.heap.size,HN.out,rfl,⟨fun b=>if b=w.heap.size then 1 else 0,.slice none 0 0,.slice none 0 0,.slice none 0 0,.slice none 0 0,⟨by simp,?_,Sl.nil _ _ _ _,Sl.nil _ _ _ _,Sl.nil _ _ _ _,Sl.nil _ _ _ _,fun b hb=>?_⟩,fun b hb=>?_⟩,Turned.alloc _ _ _⟩
  ·have := Go.Mine.heap_alloc_new w (.cells #[.int .i64 (m : Nat), .slice none 0 0, .slice none 0 0, .slice none 0 0, .slice none 0 0, .int .i64 0, .bool false] 200)
   simpa [Blk] using this
  ·by_cases z : b = w.heap.size
   ·rw [z];simp
   ·simp [z]at hb
  ·by_cases z : b = w.heap.size
   ·omega
   ·simp [z]at hb
theorem info244:(Tryz.prog.info? 244).map (fun i=>(i.zero,i.size,i.bytes))=some (some (.agg #[.string ⟨#[]⟩,.int .i64 0]),2,24):=by kernel_rfl
theorem changed_none {l:Nms} (h:∀ x∈l,x.1≠emp):changed l ⟨emp,emp,0⟩=l:=by
 unfold changed
 simp only [if_true,List.append_nil]
 rw [List.filter_eq_self]
 intro x hx
 simp [h x hx]
section
variable {w:World} {rl:Nat→Nat} {r:Nat} {fv sv av pv:Value} {D:Dk}
theorem RkAt.setSafe {w2:World} {v2:Value} (h:RkAt w rl r fv sv av pv D) (ht:Turned (fun _=>False) w w2) (hs:Sl w2 (fun b=>w.heap.size≤b) 242 2 v2 (ncellsR D.seen) D.seen.length) :
  RkPost w rl r { D with safe:=D.seen,pend:=[] } ((w2.setCell ⟨r,3,none⟩ v2).setCell ⟨r,4,none⟩ (.slice none 0 0)):=by
 have t2:Turned (· = r) w2 ((w2.setCell ⟨r,3,none⟩ v2).setCell ⟨r,4,none⟩ (.slice none 0 0)):=((Turned.refl (· = r) w2).set (p:=⟨r,3,none⟩) rfl _).set (p:=⟨r,4,none⟩) rfl _
 have T:Turned (· = r) w ((w2.setCell ⟨r,3,none⟩ v2).setCell ⟨r,4,none⟩ (.slice none 0 0)):=ht.comp t2 fun i _ q=>q.elim False.elim id
 have K:=h.keepR w2 4
 have r1:=h.r1
 have hne:∀ b,rl b≠0→rl b≠1→¬ b=r:=fun b _ hb q=>hb (q ▸ r1)
 have hlt:=h.bnd r (by rw [r1];decide)
 have hsz:((w2.setCell ⟨r,3,none⟩ v2).setCell ⟨r,4,none⟩ (.slice none 0 0)).heap.size=w2.heap.size:=by rw [setCell_size,setCell_size]
 refine ⟨newR rl w w2 4,fv,sv,v2,.slice none 0 0,⟨(K _ (by omega)).trans r1,?_,?_,?_,?_,Sl.nil _ _ _ _,fun b hb=>by rw [hsz];exact newR_bnd hb ht.size⟩,fun b hb=>newR_or hb,h.mine T⟩
 ·have hb : w2.heap[r]? = _ := (ht.block r hlt id).trans h.blk
  have q1:=Go.Mine.heap_setCell_same hb (o:=3) v2
  have q2:=Go.Mine.heap_setCell_same q1 (o:=4) (.slice none 0 0)
  simpa [Blk] using q2
 ·exact (h.files.turned T fun b hb=>hne b (by omega) (by omega)).widen fun b hb=>(K b (by omega)).trans hb
 ·exact (h.seen.turned T fun b hb=>hne b (by omega) (by omega)).widen fun b hb=>(K b (by omega)).trans hb
 ·exact sl_widenB (hs.turned t2 fun b hb q=>by omega) fun b hb q=>newR_new q (by rw [hsz]at hb;exact hb)
theorem RkAt.addFile {w3:World} {v' : Value} {o:Obj} (h:RkAt w rl r fv sv av pv D) (h3:Turned (fun b=>rl b=2) (w.alloc o) w3)
  (hs:Sl w3 (More (fun b=>rl b=2) (w.alloc o)) 244 2 v' (fcellsR D.files ++ [.string ⟨#[]⟩,.int .i64 0]) (D.files.length+1)) :
  RkAt (w3.setCell ⟨r,1,none⟩ v') (newR rl w w3 2) r v' sv av pv { D with files:=D.files ++ [⟨emp,0⟩] }∧Turned (fun b=>rl b≠0) w (w3.setCell ⟨r,1,none⟩ v'):=by
 have r1:=h.r1
 have T3:Turned (fun b=>rl b=2) w w3:=(Turned.alloc (fun b=>rl b=2) w o).trans h3 fun _ _ q=>q
 have t2:Turned (· = r) w3 (w3.setCell ⟨r,1,none⟩ v'):=Turned.setCell (S:=(· = r)) (p:=⟨r,1,none⟩) rfl _
 have T:Turned (fun b=>b=r∨rl b=2) w (w3.setCell ⟨r,1,none⟩ v'):=T3.comp t2 fun i _ q=>q.elim .inr .inl
 have K:=h.keepR w3 2
 have hlt:=h.bnd r (by rw [r1];decide)
 have hne:∀ b,rl b≠0→rl b≠1→rl b≠2→¬ (b=r∨rl b=2):=fun b _ h1 h5 q=>q.elim (fun q=>h1 (q ▸ r1)) h5
 have es:(w.alloc o).heap.size=w.heap.size+1:=by simp
 refine ⟨⟨(K _ (by omega)).trans r1,?_,?_,?_,?_,?_,fun b hb=>by rw [setCell_size];exact newR_bnd hb T3.size⟩,T.mono fun i _ q=>q.elim (fun q=>by rw [q,r1];decide) fun q=>by omega⟩
 ·have hb : w3.heap[r]? = _ := (T3.block r hlt (by rw [r1]; decide)).trans h.blk
  have:=Go.Mine.heap_setCell_same hb (o:=1) v'
  simpa [Blk] using this
 ·show Sl _ _ 244 2 v' (fcellsR (D.files ++ [⟨emp, 0⟩])) (D.files ++ [(⟨emp, 0⟩ : Fl)]).length
  rw [fcellsR_app,List.length_append]
  have:fcellsR [⟨emp,0⟩]=[.string ⟨#[]⟩,.int .i64 0]:=rfl
  rw [this]
  refine sl_widenB (hs.turned t2 fun b hb q=>?_) fun b hb q=>?_
  ·rcases hb with hb | hb
   ·rw [q,r1]at hb;omega
   ·omega
  ·rcases q with q | q
   ·exact (newR_old (h.bnd b (by omega))).trans q
   ·exact newR_new (by omega) (by rw [setCell_size]at hb;exact hb)
 ·exact (h.seen.turned T fun b hb=>hne b (by omega) (by omega) (by omega)).widen fun b hb=>(K b (by omega)).trans hb
 ·exact (h.safe.turned T fun b hb=>hne b (by omega) (by omega) (by omega)).widen fun b hb=>(K b (by omega)).trans hb
 ·exact (h.pend.turned T fun b hb=>hne b (by omega) (by omega) (by omega)).widen fun b hb=>(K b (by omega)).trans hb
end
theorem ksyncNames_any {w:World} {rl:Nat→Nat} {r:Nat} {fv sv av pv:Value} {D:Dk} (h:RkAt w rl r fv sv av pv D) (hok:D.Ok) :
  Calls Tryz.prog 184 #[pt r] w fun e w'=>e = .returned (.int .i64 (D.syncNames.2:Nat))∧RkPost w rl r D.syncNames.1 w':=by
 have c6:=cell_of h.blk 6 _ rfl
 have hlt:=lt_of_block h.blk
 cases ho:D.off with
 |true=>
  have HR:Hid (D.syncNames=(D,8)):=hidS (by simp [Dk.syncNames,ho])
  have HP:Hid (RkPost w rl r D w):=h.post (Turned.refl _ _)
  rw [ho]at c6
  rw [HR.out]
  clear h hok ho
  go_enter Tryz.func184,Tryz.ntmps184
  go_wp2
  go_ret
  exact ⟨rfl,HP.out⟩
 |false=>
  have HR:Hid (D.syncNames=D.then fun d=>{ d with safe:=d.seen,pend:=[] }):=hidS (by simp [Dk.syncNames,ho])
  obtain ⟨k1,k2⟩:=kstep_two h hok
  rw [ho]at c6
  by_cases h1:D.falls=1
  ·have hst := k1 h1 w (Turned.refl _ _)
   rw [HR.out,Dk.then_dies h1]
   clear h hok k1 k2 h1 ho
   go_enter Tryz.func184,Tryz.ntmps184
   go_wp2_with (go_at_call 169;(refine hst.mono ?_);rintro e w3 ⟨rfl,z⟩;replace z:Hid _:=hidS z)
   go_ret
   exact ⟨rfl,z.out⟩
  ·have hst := k2 h1 w (Turned.refl _ _)
   rw [HR.out,Dk.then_goes h1]
   obtain ⟨a,cap,hsv,-,-⟩:=h.seen.value
   have KC:Hid (∀ W,RkAt W rl r fv sv av pv { D with falls:=D.falls - 1 }→Turned (fun b=>rl b≠0) w W→W.cell? ⟨r,2,none⟩=some sv∧Calls Tryz.prog 165 #[sv,.agg #[.string ⟨#[]⟩,.string ⟨#[]⟩,.int .i64 0]] W fun e w'=>∃ v,e = .returned v∧RkPost w rl r { { D with falls:=D.falls - 1 } with safe:=D.seen,pend:=[] } ((w'.setCell ⟨r,3,none⟩ v).setCell ⟨r,4,none⟩ (.slice none 0 0))∧w'.cell? ⟨r,3,none⟩=some av∧w'.cell? ⟨r,4,none⟩=some pv∧w'.frozen? ⟨r,3,none⟩=false∧w'.frozen? ⟨r,4,none⟩=false∧r<w'.heap.size∧∃ a cap n,v = .slice a n cap):=hidS fun W hW ht=>by
    refine ⟨cell_of hW.blk 2 _ rfl,(kchanged_any ⟨emp,emp,0⟩ W hW.seen (show D.seen.length≤100000 from kseen hok)).mono ?_⟩
    rintro e w' ⟨v,rfl,q1,q2⟩
    have hce:changed D.seen ⟨emp,emp,0⟩=D.seen:=changed_none hok.seenOk.ne
    have q1' : Sl w' (fun b=>W.heap.size≤b) 242 2 v (ncellsR D.seen) D.seen.length:=by
     have:=q1
     simp only [hce]at this
     exact this
    have hb:=boxed hW.blk q2 id
    obtain ⟨a',cap',hv',-,-⟩:=q1'.value
    exact ⟨v,rfl,(hW.setSafe q2 q1').after ht,cell_of hb 3 _ rfl,cell_of hb 4 _ rfl,free_of hb 3,free_of hb 4,lt_of_block hb,a',cap',_,hv'⟩
   obtain ⟨ap,capp,hpv,-,-⟩:=h.pend.value
   obtain ⟨aa,capa,hav,-,-⟩:=h.safe.value
   rw [hsv,hpv,hav]at KC
   rw [hsv,hpv,hav]at hst
   clear h hok k1 k2 h1 ho hsv hpv hav
   go_enter Tryz.func184,Tryz.ntmps184
   go_wp2_with (first|(go_at_call 169;(refine hst.mono ?_);rintro e w3 ⟨rfl,z1,z2⟩;obtain ⟨y1,y2⟩:=KC.out _ z1 z2;clear z1 z2)|(go_at_call 165;(refine y2.mono ?_);rintro e w4 ⟨v,rfl,z,q1,q2,q3,q4,q5,a5,cap5,n5,rfl⟩;replace z:Hid _:=hidS z))
   go_ret
   exact ⟨rfl,z.out⟩
end Go.Proofs.YtofcogekgcgjhaaGreatDoor
namespace Go.Proofs.YtofcogekgcgjhaaGreatDoor
open Go.RowKit Go.Mine Go.Mine.Ac
set_option maxHeartbeats 8000000 in
theorem kcreate_any {w:World} {rl:Nat→Nat} {r:Nat} {fv sv av pv:Value} {D:Dk} (h:RkAt w rl r fv sv av pv D) (hok:D.Ok) (hp:D.pend.length≤1000000000) (hfl:D.files.length≤1000000000) (name:ByteArray) :
  Calls Tryz.prog 183 #[pt r,.string name] w fun e w'=>e = .returned (.int .i64 ((D.create name).2:Nat))∧RkPost w rl r (D.create name).1 w':=by
 have c6:=cell_of h.blk 6 _ rfl
 have c2:=cell_of h.blk 2 _ rfl
 have hlt:=lt_of_block h.blk
 have HP:Hid (∀ w',Turned (fun _=>False) w w'→RkPost w rl r D w'):=hidS fun w' ht=>(h.turned ht fun _ _ q=>q).post (ht.mono fun _ _ q=>q.elim)
 cases ho:D.off with
 |true=>
  have HR:Hid (D.create name=(D,8)):=hidS (by simp [Dk.create,ho])
  rw [ho]at c6
  rw [HR.out]
  clear h hok ho
  go_enter Tryz.func183,Tryz.ntmps183
  go_wp2
  go_ret
  exact ⟨rfl,HP.out _ (Turned.refl _ _)⟩
 |false=>
  rw [ho]at c6
  have hgo:Calls Tryz.prog 264 #[.string name] w fun e w'=>e = .returned (.bool (goodName name))∧w=w':=kgood_any name w
  cases hg:goodName name with
  |false=>
   have HR:Hid (D.create name=(D,1)):=hidS (by simp [Dk.create,ho,hg])
   rw [hg]at hgo
   rw [HR.out]
   clear h hok ho hg
   go_enter Tryz.func183,Tryz.ntmps183
   go_wp2_with (go_at_call 264;(with_reducible refine hgo.mono ?_);rintro e w3 ⟨rfl,rfl⟩)
   go_ret
   exact ⟨rfl,HP.out _ (Turned.refl _ _)⟩
  |true=>
   rw [hg]at hgo
   obtain ⟨asv,capsv,hsv,-,-⟩:=h.seen.value
   obtain ⟨af,capf,hfv,-,-⟩:=h.files.value
   subst hsv
   subst hfv
   obtain ⟨NS,hNS⟩:∃ NS,NS=D.seen.length:=⟨_,rfl⟩
   obtain ⟨n,hn⟩:∃ n,n=D.files.length:=⟨_,rfl⟩
   have hfd0:=kfind_any name w h.seen (kseen hok)
   have C2:Hid (∀ W,Turned (fun _=>False) w W→W.cell? ⟨r,2,none⟩=some (.slice asv NS capsv)):=hidS fun W ht=>by rw [hNS];exact cell_at c2 ht id
   obtain ⟨k1,k2⟩:=kstep_two h hok
   rw [←hNS,←hn]at k2
   rw [←hNS]at c2 hfd0
   have HA:Hid (∀ W,RkAt W rl r (.slice af n capf) (.slice asv NS capsv) av pv { D with falls:=D.falls - 1 }→Sl (W.alloc (.cells #[.string ⟨#[]⟩,.int .i64 0] 244)) (fun b=>rl b=2) 244 2 (.slice af n capf) (fcellsR D.files) n∧Src Tryz.prog 2 196 (.slice (some ⟨W.heap.size,0,none⟩) 1 1) 1 [.string ⟨#[]⟩,.int .i64 0] (W.alloc (.cells #[.string ⟨#[]⟩,.int .i64 0] 244))∧W.cell? ⟨r,1,none⟩=some (.slice af n capf)):=hidS fun W hW=>by
    refine ⟨?_,src_new 244 Tryz.underlying196 [.string ⟨#[]⟩,.int .i64 0] (by simp [Value.oneCell']) W,cell_of hW.blk 1 _ rfl⟩
    have:=hW.files
    simp only [←hn]at this
    exact this.turned (Turned.alloc (fun _=>False) _ _) fun _ _ q=>q
   have HB:Hid (∀ W w3 a3 cap3,RkAt W rl r (.slice af n capf) (.slice asv NS capsv) av pv { D with falls:=D.falls - 1 }→Turned (fun b=>rl b≠0) w W→Turned (fun b=>rl b=2) (W.alloc (.cells #[.string ⟨#[]⟩,.int .i64 0] 244)) w3 →
     Sl w3 (More (fun b=>rl b=2) (W.alloc (.cells #[.string ⟨#[]⟩,.int .i64 0] 244))) 244 2 (.slice a3 (n+1) cap3) (fcellsR D.files ++ [.string ⟨#[]⟩,.int .i64 0]) (n+1) →
     w3.cell? ⟨r,1,none⟩=some (.slice af n capf)∧w3.frozen? ⟨r,1,none⟩=false∧r<w3.heap.size ∧
     Calls Tryz.prog 170 #[pt r,.agg #[.string ⟨#[]⟩,.string name,.int .i64 (n:Nat)]] (w3.setCell ⟨r,1,none⟩ (.slice a3 (n+1) cap3)) fun e w'=>e = .returned (.tuple #[])∧RkPost w rl r (Dk.change { { D with falls:=D.falls - 1 } with files:=D.files ++ [⟨emp,0⟩] } ⟨emp,name,n⟩) w'):=hidS fun W w3 a3 cap3 hW ht h3 hs=>by
    have r1:=hW.r1
    have hb:w3.heap[r]? = _:=((h3.block r (by have:=lt_of_block hW.blk;simp;omega) (by rw [r1];decide)).trans (alloc_old _ (lt_of_block hW.blk))).trans hW.blk
    refine ⟨cell_of hb 1 _ rfl,free_of hb 1,lt_of_block hb,?_⟩
    obtain ⟨j1,j2⟩:=RkAt.addFile hW h3 (by simp only [←hn];exact hs)
    refine (kchange_any j1 ⟨emp,name,n⟩ (show D.seen.length≤100000 from kseen hok) hp).mono fun e w' ⟨a1,a2⟩=>⟨a1,?_⟩
    refine RkPost.from a2 (fun b hb=>?_) (ht.trans j2 fun _ _ q=>q)
    exact (newR_or hb).elim .inl fun q=>.inr (Nat.le_trans ht.size q)
   have HFL:Hid (n+1≤maxLen∧(n+1) * 24≤140737488355328):=hidS ⟨by rw [hn];simp only [maxLen];omega,by rw [hn];omega⟩
   have hw3:wrap64 (n:Int)=(n:Int):=by rw [hn];simp only [wrap64];omega
   have hw1:wrap64 (((n+1:Nat):Int) - 1)=(n:Int):=by rw [hn];simp only [wrap64];omega
   have hw2:wrap64 ((n:Int)+1 - 1)=(n:Int):=by rw [hn];simp only [wrap64];omega
   have HCR:Hid (¬ (findN D.seen name=none∧64≤NS)→D.create name=D.then fun d=>Dk.change { d with files:=d.files ++ [⟨emp,0⟩] } ⟨emp,name,d.files.length⟩):=hidS fun q=>by
    unfold Dk.create
    rw [ho,if_neg (by decide),hg,if_neg (by decide),if_neg (by rw [←hNS];exact q)]
   have HNN:Hid (n=D.files.length):=hn
   cases hfn:findN D.seen name with
   |none=>
    have hfd:Calls Tryz.prog 243 #[.slice asv NS capsv,.string name] w fun e w'=>e = .returned (.int .i64 (-1))∧Turned (fun _=>False) w w':=hfd0.mono fun e w' ⟨t,q⟩=>q.elim (fun q=>⟨q.2,t⟩) fun ⟨i,k,_,q,_⟩=>by rw [hfn]at q;cases q
    by_cases hfull:64≤NS
    ·have HR : Hid (D.create name = (D, 7)) := hidS (by
      unfold Dk.create
      rw [ho,if_neg (by decide),hg,if_neg (by decide),if_pos ⟨hfn,by omega⟩])
     have hd1:decide ((64:Int)≤(NS:Int))=true:=by simp;omega
     have hd2:decide (64≤NS)=true:=by simp;omega
     rw [HR.out]
     clear h hok ho hg hp hfl hn hNS k1 k2 hfull hfn hfd0
     go_enter Tryz.func183,Tryz.ntmps183
     go_wp2_with (first|(go_at_call 264;(with_reducible refine hgo.mono ?_);rintro e w2 ⟨rfl,rfl⟩)|(go_at_call 243;(with_reducible refine hfd.mono ?_);rintro e w3 ⟨rfl,t⟩;have cc2:=C2.out _ t;replace t:Hid _:=hidS t))
     go_ret
     exact ⟨rfl,HP.out _ t.out⟩
    ·have hnf : ¬ (findN D.seen name = none ∧ 64 ≤ NS) := fun q => hfull q.2
     have hd1:decide ((64:Int)≤(NS:Int))=false:=by simp;omega
     have hd2:decide (64≤NS)=false:=by simp;omega
     clear hfull hfn
     by_cases h1:D.falls=1
     ·have HST : Hid _ := hidS (k1 h1)
      rw [HCR.out hnf,Dk.then_dies h1]
      clear h hok ho hg hp hfl hn hNS k1 k2 h1 hfd0 hnf
      go_enter Tryz.func183,Tryz.ntmps183
      go_wp2_with (first|(go_at_call 264;(with_reducible refine hgo.mono ?_);rintro e w2 ⟨rfl,rfl⟩)|(go_at_call 243;(with_reducible refine hfd.mono ?_);rintro e w3 ⟨rfl,t⟩;have cc2:=C2.out _ t;have hst:=HST.out _ t;clear t)|(go_at_call 169;(with_reducible refine hst.mono ?_);rintro e w4 ⟨rfl,z⟩;replace z:Hid _:=hidS z))
      go_ret
      exact ⟨rfl,z.out⟩
     ·have HST : Hid _ := hidS (k2 h1)
      rw [HCR.out hnf,Dk.then_goes h1]
      clear h hok ho hg hp hfl hn hNS k1 k2 h1 hfd0 hnf
      go_enter Tryz.func183,Tryz.ntmps183
      go_wp2_with (first
       |(go_at_call 264;(with_reducible refine hgo.mono ?_);rintro e w2 ⟨rfl,rfl⟩)
       |(go_at_call 243;(with_reducible refine hfd.mono ?_);rintro e w3 ⟨rfl,t⟩;have cc2:=C2.out _ t;have hst:=HST.out _ t;clear t)
       |(go_at_call 169;(with_reducible refine hst.mono ?_);rintro e w4 ⟨rfl,z1,z2⟩;obtain ⟨y1,y2,y3⟩:=HA.out w4 z1;replace y1:Hid _:=hidS y1;replace y2:Hid _:=hidS y2;replace z1:Hid _:=hidS z1;replace z2:Hid _:=hidS z2)
       |(at_builtin;refine wpList_append rfl _ _ 196 196 rfl y1.out Tryz.underlying196 info244 rfl (by decide) rfl (.slice (some ⟨w4.heap.size,0,none⟩) 1 1) rfl y2.out HFL.out.1 HFL.out.2 ?_;intro v5 w5 q1 q2;obtain ⟨a5,cap5,hv5,-,-⟩:=q1.value;subst hv5;obtain ⟨j1,j2,j3,j4⟩:=HB.out w4 w5 a5 cap5 z1.out z2.out q2 q1;clear q1 q2)
       |(go_at_call 170;(with_reducible refine j4.mono ?_);rintro e w6 ⟨rfl,z⟩;replace z:Hid _:=hidS z))
      go_ret
      exact ⟨rfl,by have:=z.out;rw [HNN.out]at this;exact this⟩
   |some k=>
    have hfd:Calls Tryz.prog 243 #[.slice asv NS capsv,.string name] w fun e w'=>(∃ i:Nat,e = .returned (.int .i64 (i:Nat)))∧Turned (fun _=>False) w w':=hfd0.mono fun e w' ⟨t,q⟩=>q.elim (fun q=>by rw [hfn]at q;cases q.1) fun ⟨i,k',_,_,q2⟩=>⟨⟨i,q2⟩,t⟩
    have hnf:¬ (findN D.seen name=none∧64≤NS):=fun q=>by rw [hfn]at q;cases q.1
    clear hfn
    by_cases h1:D.falls=1
    ·have HST : Hid _ := hidS (k1 h1)
     rw [HCR.out hnf,Dk.then_dies h1]
     clear h hok ho hg hp hfl hn hNS k1 k2 h1 hfd0 hnf
     go_enter Tryz.func183,Tryz.ntmps183
     go_wp2_with (first|(go_at_call 264;(with_reducible refine hgo.mono ?_);rintro e w2 ⟨rfl,rfl⟩)|(go_at_call 243;(with_reducible refine hfd.mono ?_);rintro e w3 ⟨⟨fi,rfl⟩,t⟩;have cc2:=C2.out _ t;have hfi0:decide ((fi:Int)<0)=false:=(by simp);have hst:=HST.out _ t;clear t)|(go_at_call 169;(with_reducible refine hst.mono ?_);rintro e w4 ⟨rfl,z⟩;replace z:Hid _:=hidS z))
     go_ret
     exact ⟨rfl,z.out⟩
    ·have HST : Hid _ := hidS (k2 h1)
     rw [HCR.out hnf,Dk.then_goes h1]
     clear h hok ho hg hp hfl hn hNS k1 k2 h1 hfd0 hnf
     go_enter Tryz.func183,Tryz.ntmps183
     go_wp2_with (first
      |(go_at_call 264;(with_reducible refine hgo.mono ?_);rintro e w2 ⟨rfl,rfl⟩)
      |(go_at_call 243;(with_reducible refine hfd.mono ?_);rintro e w3 ⟨⟨fi,rfl⟩,t⟩;have cc2:=C2.out _ t;have hfi0:decide ((fi:Int)<0)=false:=(by simp);have hst:=HST.out _ t;clear t)
      |(go_at_call 169;(with_reducible refine hst.mono ?_);rintro e w4 ⟨rfl,z1,z2⟩;obtain ⟨y1,y2,y3⟩:=HA.out w4 z1;replace y1:Hid _:=hidS y1;replace y2:Hid _:=hidS y2;replace z1:Hid _:=hidS z1;replace z2:Hid _:=hidS z2)
      |(at_builtin;refine wpList_append rfl _ _ 196 196 rfl y1.out Tryz.underlying196 info244 rfl (by decide) rfl (.slice (some ⟨w4.heap.size,0,none⟩) 1 1) rfl y2.out HFL.out.1 HFL.out.2 ?_;intro v5 w5 q1 q2;obtain ⟨a5,cap5,hv5,-,-⟩:=q1.value;subst hv5;obtain ⟨j1,j2,j3,j4⟩:=HB.out w4 w5 a5 cap5 z1.out z2.out q2 q1;clear q1 q2)
      |(go_at_call 170;(with_reducible refine j4.mono ?_);rintro e w6 ⟨rfl,z⟩;replace z:Hid _:=hidS z))
     go_ret
     exact ⟨rfl,by have:=z.out;rw [HNN.out]at this;exact this⟩
end Go.Proofs.YtofcogekgcgjhaaGreatDoor
