/- Packed. -/
import Derived.Test.YtofcogekgcgjhaaGreatDoorZzaf
set_option linter.unusedVariables false
set_option linter.unusedSimpArgs false
set_option maxRecDepth 100000
namespace Go.Proofs.YtofcogekgcgjhaaGreatDoor
open Go.RowKit Go.Mine
abbrev chv (c:Ch):Value:=.agg #[.int .u32 (c.1:Nat),.string c.2]
theorem same_any (c d:Ch) (x:Nat) (w:World) (hx:w.cell? ⟨x,0,none⟩=some (.int .u32 (d.1:Nat))) :
  Calls Tryz.prog 298 #[chv c,pt x] w fun e w'=>e = .returned (.bool (decide (c.1=d.1)))∧Turned (fun _=>False) w w':=by
 have hlt:=lt_of_cell hx
 have he:decide (c.1=d.1)=decide ((c.1:Int)=(d.1:Int)):=by
  have:(c.1=d.1)=((c.1:Int)=(d.1:Int)):=by apply propext;omega
  simp only [this]
 rw [he]
 clear he
 go_enter Tryz.func298,Tryz.ntmps298
 go_wp2
 go_ret
 exact ⟨by rfl,Turned.alloc _ _ _⟩
theorem chIs_any {w:World} {a:Option Addr} {cap:Nat} {l:List Ch} (h:ChIs w a cap l) (j:Nat) (c:Ch) (hc:l[j]? = some c) :
  ∃ b off,a=some ⟨b,off,none⟩∧b<w.heap.size∧w.cell? ⟨b,off+j * 2,none⟩=some (.int .u32 (c.1:Nat))∧w.cell? ⟨b,off+j * 2+1,none⟩=some (.string c.2):=by
 have hj:=(List.getElem?_eq_some_iff.1 hc).1
 obtain ⟨b,off,h1,h2,h3⟩:=h.2.2.2 (by omega)
 exact ⟨b,off,h1,h2,(h3 j c hc).1,(h3 j c hc).2⟩
def hasCh (l:List Ch) (id:Nat):Bool:=l.any (fun c=>decide (c.1=id))
def IdxRel (w:World) (l:List Ch) (id:Nat) (g:Nat) (i:Value) (wr:World):Prop:=
 ∃ j:Nat,j+g=l.length∧i = .int .i64 j∧(∀ t d,t<j→l[t]? = some d→d.1≠id)∧Turned (fun _=>False) w wr
def IdxPost (w:World) (l:List Ch) (id:Nat) (e:Ending) (w' : World):Prop:=
 Turned (fun _=>False) w w'∧((hasCh l id=false∧e = .returned (.int .i64 (-1)))∨(hasCh l id=true∧∃ j:Nat,e = .returned (.int .i64 j)))
set_option maxHeartbeats 1000000 in
theorem indexFunc_any (a:Option Addr) (cap x:Nat) (l:List Ch) (d:Ch) (w:World) (h:ChIs w a cap l) (hx:w.cell? ⟨x,0,none⟩=some (.int .u32 (d.1:Nat))) :
  Calls Tryz.prog 331 #[.slice a l.length cap,.func (.func 298) #[] #[pt x]] w (IdxPost w l d.1):=by
 have H:Hid (ChIs w a cap l):=h
 have HX:Hid (w.cell? ⟨x,0,none⟩=some (.int .u32 (d.1:Nat))):=hx
 obtain ⟨L,hL⟩:∃ L,L=l.length:=⟨_,rfl⟩
 have HL:Hid (L=l.length):=hL
 rw [←hL]
 have hcap:Hid (L≤9223372036854775807):=(by rw [hL];have:=h.1;have:=h.2.1;simp only [maxLen]at this;omega:L≤9223372036854775807)
 clear h hL hx
 go_enter Tryz.func331,Tryz.ntmps331
 go_wp2
 have HS:Hid (IdxRel w l d.1 L (.int .i64 0) w):=⟨0,by rw [HL.out,Nat.zero_add],rfl,fun t d ht=>by omega,Turned.refl _ _⟩
 go_loopg [8] L (fun g i wr=>IdxRel w l d.1 g i wr)
 case atStart=>exact HS.out
 case round=>
  obtain ⟨j,hjg,rfl,hno,ht⟩:=hrel
  have N:Hid (∀ t e,t<j→l[t]? = some e→e.1≠d.1):=hno
  have T:Hid (Turned (fun _=>False) w wr):=ht
  have G:Hid (j+gk=l.length):=hjg
  clear hno ht hjg HS
  by_cases hlt:j<L
  ·obtain ⟨c, hc⟩ : ∃ c, l[j]? = some c := ⟨_, List.getElem?_eq_getElem (by rw [← HL.out]; exact hlt)⟩
   obtain ⟨b,off,rfl,hbw,c0,c1⟩:=chIs_any (H.out.turned T.out) j c hc
   have hw:wrap64 ((j:Int)+1)=((j+1:Nat):Int):=by have:=hcap.out;simp [wrap64];omega
   have HW:Hid (wrap64 ((j:Int)+1)=((j+1:Nat):Int)):=hw
   have C:Hid (l[j]? = some c):=hc
   have hs:Calls Tryz.prog 298 #[chv c,pt x] wr _:=same_any c d x wr (by rw [World.cell?_of_block (w':=wr) (T.out.block x (lt_of_cell HX.out) fun q=>q)];exact HX.out)
   clear hc hw
   by_cases hid:c.1=d.1
   ·rw [decide_eq_true hid] at hs
    have HI:Hid (c.1=d.1):=hid
    clear hid
    go_wp2_with (go_at_call 298;(with_reducible refine hs.mono ?_);rintro e w2 ⟨rfl,ht2⟩)
    go_ret
    refine ⟨T.out.trans ht2 fun _ _ q=>q,.inr ⟨?_,j,rfl⟩⟩
    unfold hasCh
    rw [List.any_eq_true]
    exact ⟨c,List.mem_of_getElem? C.out,by simpa using HI.out⟩
   ·rw [decide_eq_false hid] at hs
    go_wp2_with (go_at_call 298;(with_reducible refine hs.mono ?_);rintro e w2 ⟨rfl,ht2⟩)
    go_roundg (gk - 1)
    case measure=>have:=G.out;have:=HL.out;omega
    case rel=>
     refine ⟨j+1,by have:=G.out;have:=HL.out;omega,by rw [HW.out],fun t e ht hd=>?_,T.out.trans ht2 fun _ _ q=>q⟩
     rcases Nat.lt_or_eq_of_le (Nat.le_of_lt_succ ht) with q|q
     ·exact N.out t e q hd
     ·rw [q,C.out]at hd;obtain rfl:=Option.some.inj hd;exact hid
  ·go_wp2
   go_ret
   refine ⟨T.out,.inl ⟨?_,rfl⟩⟩
   unfold hasCh
   rw [List.any_eq_false]
   intro c hc
   obtain ⟨t,ht⟩:=List.getElem?_of_mem hc
   have:=(List.getElem?_eq_some_iff.1 ht).1
   simpa using N.out t c (by have:=HL.out;omega) ht
set_option maxHeartbeats 1000000 in
theorem containsFunc_any (a:Option Addr) (cap x:Nat) (l:List Ch) (d:Ch) (w:World) (h:ChIs w a cap l) (hx:w.cell? ⟨x,0,none⟩=some (.int .u32 (d.1:Nat))) :
  Calls Tryz.prog 297 #[.slice a l.length cap,.func (.func 298) #[] #[pt x]] w fun e w'=>e = .returned (.bool (hasCh l d.1))∧Turned (fun _=>False) w w':=by
 have hi:=indexFunc_any a cap x l d w h hx
 clear h hx
 generalize hb:hasCh l d.1=b
 have B:Hid (hasCh l d.1=b):=hb
 clear hb
 go_enter Tryz.func297,Tryz.ntmps297
 go_wp2_with fail
 refine hi.mono ?_
 rintro e w1 ⟨ht,⟨h1,rfl⟩|⟨h1,j,rfl⟩⟩
 ·rw [B.out] at h1
  subst h1
  go_wp2
  go_ret
  exact ⟨rfl,ht⟩
 ·rw [B.out] at h1
  subst h1
  have hj:decide ((0:Int)≤(j:Int))=true:=by simp
  go_wp2
  go_ret
  exact ⟨rfl,ht⟩
def ccells:List Ch→List Value
 | []=>[]
 |c :: l=>.int .u32 (c.1:Nat) :: .string c.2 :: ccells l
theorem ccells_length (l:List Ch):(ccells l).length=l.length * 2:=by
 induction l with
 |nil=>rfl
 |cons c l ih=>simp [ccells,ih];omega
theorem ccells_get:∀ (l:List Ch) (i:Nat) (c:Ch),l[i]? = some c→(ccells l)[i * 2]? = some (.int .u32 (c.1:Nat))∧(ccells l)[i * 2+1]? = some (.string c.2)
 | [],i,c,h=>by simp at h
 |d :: l,0,c,h=>by simp at h;subst h;simp [ccells]
 |d :: l,i+1,c,h=>by
  have:=ccells_get l i c (by simpa using h)
  have e1:(i+1) * 2=i * 2+1+1:=by omega
  have e2:(i+1) * 2+1=i * 2+1+1+1:=by omega
  rw [e2,e1]
  simp only [ccells,List.getElem?_cons_succ]
  exact this
theorem ccells_at (l:List Ch) (j:Nat) (u:Value) (h:(ccells l)[j]? = some u):∃ i c,l[i]? = some c∧((j=i * 2∧u = .int .u32 (c.1:Nat))∨(j=i * 2+1∧u = .string c.2)):=by
 have hj:=(List.getElem?_eq_some_iff.1 h).1
 rw [ccells_length]at hj
 have hi:j / 2<l.length:=by omega
 have hc:l[j / 2]? = some l[j / 2]:=List.getElem?_eq_getElem hi
 obtain ⟨g1,g2⟩:=ccells_get l _ _ hc
 rcases Nat.mod_two_eq_zero_or_one j with hm|hm
 ·have e : j = j / 2 * 2 := by omega
  refine ⟨_,_,hc,.inl ⟨e,?_⟩⟩
  rw [e,g1]at h
  exact (Option.some.inj h).symm
 ·have e : j = j / 2 * 2 + 1 := by omega
  refine ⟨_,_,hc,.inr ⟨e,?_⟩⟩
  rw [e,g2]at h
  exact (Option.some.inj h).symm
theorem src_chunks {w:World} {a:Option Addr} {cap:Nat} {l:List Ch} (h:ChIs w a cap l) (hnil:a=none→cap=0):Src Tryz.prog 2 273 (.slice a l.length cap) l.length (ccells l) w:=by
 rcases Nat.eq_zero_or_pos l.length with h0|h0
 ·have : l = [] := List.eq_nil_of_length_eq_zero h0
  subst this
  cases a with
  |none=>exact Src.ofNil w Tryz.underlying273 cap
  |some ad=>exact Src.ofSlice w Tryz.underlying273 ad 0 cap [] rfl (fun j u hj=>by simp at hj) (fun u hu=>by simp at hu)
 ·obtain ⟨b, off, rfl, hb, hel⟩ := h.2.2.2 h0
  refine Src.ofSlice w Tryz.underlying273 ⟨b,off,none⟩ l.length cap (ccells l) (ccells_length l) (fun j u hj=>?_) (fun u hu=>?_)
  ·rw [Addr.add_lit]
   obtain ⟨i,c,hi,⟨rfl,rfl⟩|⟨rfl,rfl⟩⟩:=ccells_at l j u hj
   ·exact (hel i c hi).1
   ·rw [←Nat.add_assoc];exact (hel i c hi).2
  ·obtain ⟨j, hj⟩ := List.getElem?_of_mem hu
   obtain ⟨i,c,hi,⟨rfl,rfl⟩|⟨rfl,rfl⟩⟩:=ccells_at l j u hj <;> rfl
theorem info31:(Tryz.prog.info? 285).map (fun i=>(i.zero,i.size,i.bytes))=some (some (.agg #[.int .u32 0,.string ⟨#[]⟩]),2,24):=by kernel_rfl
set_option maxHeartbeats 1000000 in
theorem clone_any (a:Option Addr) (cap:Nat) (l:List Ch) (w:World) (h:ChIs w a cap l) (hs:a≠none) (hl:l.length≤100000) :
  Calls Tryz.prog 299 #[.slice a l.length cap] w fun e w'=>∃ v,e = .returned v∧Sl w' (fun b=>w.heap.size≤b) 285 2 v (ccells l) l.length∧Turned (fun _=>False) w w':=by
 have hsrc:∀ w',Turned (fun _=>False) w w'→Src Tryz.prog 2 273 (.slice a l.length cap) l.length (ccells l) w':=fun w' ht=>src_chunks (h.turned ht) (fun q=>absurd q hs)
 obtain ⟨ad,rfl⟩:∃ ad,a=some ad:=by cases a with
  |none=>exact absurd rfl hs
  |some ad=>exact ⟨ad,rfl⟩
 have HS:Hid (∀ w',Turned (fun _=>False) w w'→Src Tryz.prog 2 273 (.slice (some ad) l.length cap) l.length (ccells l) w'):=hsrc
 have HL:Hid (l.length≤100000):=hl
 clear h hs hsrc hl
 generalize hL:l.length=L at *
 have HLL:Hid (l.length=L):=hL
 clear hL
 have hq:∀ w',(binOp .eql 273 (.slice (some ad) L cap) (.slice none 0 0)).run Tryz.prog w' = .ok (.bool false) w':=fun w'=>Lib.run_eql_slice_nil w' 273 285 (some ad) L cap 0 0 Tryz.underlying273
 go_enter Tryz.func299,Tryz.ntmps299
 have hsl0:Sl (w.alloc (.cells #[] 285)) (· = w.heap.size) 285 2 (.slice (some ⟨w.heap.size,0,none⟩) 0 0) [] 0:=
  ⟨rfl,.inr ⟨w.heap.size,0,0,#[],rfl,rfl,heap_alloc_last w _,Nat.le_refl _,by simp [maxLen],by simp,by simp⟩⟩
 have hsrc:=HS.out (w.alloc (.cells #[] 285)) (Turned.alloc _ _ _)
 have h1:Hid (0+L≤maxLen):=(by have:=HL.out;simp only [maxLen];omega:0+L≤maxLen)
 have h2:Hid ((0+L) * 24≤140737488355328):=(by have:=HL.out;omega:(0+L) * 24≤140737488355328)
 have A0:Hid (Sl (w.alloc (.cells #[] 285)) (· = w.heap.size) 285 2 (.slice (some ⟨w.heap.size,0,none⟩) 0 0) [] 0):=hsl0
 have A1:Hid (Src Tryz.prog 2 273 (.slice (some ad) L cap) L (ccells l) (w.alloc (.cells #[] 285))):=hsrc
 clear hsl0 hsrc
 go_wp2_with (at_builtin;refine wpList_append rfl _ _ 273 273 rfl A0.out Tryz.underlying273 info31 rfl (by decide) rfl (.slice (some ad) L cap) rfl A1.out h1.out h2.out ?_;intro v' w1 hsl1 ht1;obtain ⟨a2,cap2,hv2,-,-⟩:=hsl1.value;subst hv2)
 go_ret
 refine ⟨_,rfl,?_,(Turned.alloc (fun _=>False) w (.cells #[] 285)).comp ht1 fun i hi q=>q.elim id fun q=>by omega⟩
 rw [List.nil_append]at hsl1
 have hz:(w.alloc (.cells #[] 285)).heap.size=w.heap.size+1:=by simp
 have:=hsl1.widen (T:=fun b=>w.heap.size≤b) fun b q=>q.elim (fun q=>by omega) fun q=>by omega
 rw [Nat.zero_add]at this
 simpa using this
def checkCh:List Ch→List Ch→Nat
 |_,[]=>0
 |pre,c :: r=>if c.1=0 then 1 else if hasCh pre c.1 then 11 else checkCh (pre ++ [c]) r
def dataSize:List Ch→Nat
 | []=>0
 |c :: l=>c.2.size+dataSize l
theorem dataSize_append (a b:List Ch):dataSize (a ++ b)=dataSize a+dataSize b:=by
 induction a with
 |nil=>simp [dataSize]
 |cons c a ih=>simp [dataSize,ih];omega
def buildErr (l:List Ch):Nat:=
 if 16<l.length then 5
 else if checkCh [] l≠0 then checkCh [] l
 else if 4194304<10+8 * l.length+dataSize l then 5 else 0
def insCh (c:Ch):List Ch→List Ch
 | []=>[c]
 |d :: l=>if d.1<c.1 then d :: insCh c l else c :: d :: l
def sortCh (l:List Ch):List Ch:=l.foldl (fun out c=>insCh c out) []
theorem insCh_perm (c:Ch) (l:List Ch):(insCh c l).Perm (c :: l):=by
 induction l with
 |nil=>exact List.Perm.refl _
 |cons d l ih=>
  unfold insCh
  split
  ·exact (List.Perm.cons d ih).trans (List.Perm.swap c d l)
  ·exact List.Perm.refl _
theorem foldl_ins_perm (l:List Ch):∀ out:List Ch,(l.foldl (fun out c=>insCh c out) out).Perm (l ++ out):=by
 induction l with
 |nil=>intro out;exact List.Perm.refl _
 |cons c l ih=>
  intro out
  refine (ih _).trans ?_
  refine (List.Perm.append_left l (insCh_perm c out)).trans ?_
  exact List.perm_middle
theorem sortCh_perm (l:List Ch):(sortCh l).Perm l:=by
 have:=foldl_ins_perm l []
 rwa [List.append_nil]at this
abbrev Rising (l:List Ch):Prop:=l.Pairwise (fun a b=>a.1<b.1)
theorem insCh_rising (c:Ch) (l:List Ch) (h:Rising l) (hc:∀ d∈l,d.1≠c.1):Rising (insCh c l):=by
 induction l with
 |nil=>simp [insCh,Rising]
 |cons d l ih=>
  unfold insCh
  have hd:=List.pairwise_cons.1 h
  split
  ·rename_i hlt
   refine List.pairwise_cons.2 ⟨fun e he=>?_,ih hd.2 fun e he=>hc e (List.mem_cons_of_mem _ he)⟩
   rcases List.mem_cons.1 ((insCh_perm c l).mem_iff.1 he) with rfl|he
   ·exact hlt
   ·exact hd.1 e he
  ·rename_i hlt
   have hlt2:c.1<d.1:=by have:=hc d List.mem_cons_self;omega
   refine List.pairwise_cons.2 ⟨fun e he=>?_,h⟩
   rcases List.mem_cons.1 he with rfl|he
   ·exact hlt2
   ·have:=hd.1 e he;omega
theorem sortCh_rising (l:List Ch) (h:(l.map (·.1)).Nodup):Rising (sortCh l):=by
 have:∀ (l out:List Ch),Rising out→((out ++ l).map (·.1)).Nodup→Rising (l.foldl (fun out c=>insCh c out) out):=by
  intro l
  induction l with
  |nil=>intro out h _;exact h
  |cons c l ih=>
   intro out h hn
   have hp:((insCh c out ++ l).map (·.1)).Perm ((out ++ c :: l).map (·.1)):=
    List.Perm.map _ ((List.Perm.append_right l (insCh_perm c out)).trans (List.perm_middle.symm))
   refine ih _ (insCh_rising c out h fun d hd q=>?_) (hp.nodup_iff.2 hn)
   rw [List.map_append,List.nodup_append]at hn
   exact hn.2.2 d.1 (List.mem_map.2 ⟨d,hd,rfl⟩) c.1 (by simp) q
 exact this l [] List.Pairwise.nil (by simpa using h)
theorem rising_unique:∀ (a b:List Ch),Rising a→Rising b→a.Perm b→a=b
 | [],b,_,_,hp=>(List.Perm.nil_eq hp)
 |c :: a,[],_,_,hp=>absurd hp.symm (by simp)
 |c :: a,d :: b,ha,hb,hp=>by
  have h1:=List.pairwise_cons.1 ha
  have h2:=List.pairwise_cons.1 hb
  have hcd:c=d:=by
   rcases List.mem_cons.1 (hp.mem_iff.1 (List.mem_cons_self:c∈c :: a)) with q|q
   ·exact q
   ·rcases List.mem_cons.1 (hp.mem_iff.2 (List.mem_cons_self : d ∈ d :: b)) with z | z
    ·exact z.symm
    ·have:=h2.1 c q;have:=h1.1 d z;omega
  subst hcd
  rw [rising_unique a b h1.2 h2.2 (List.Perm.cons_inv hp)]
theorem checkCh_ok (l:List Ch):∀ pre:List Ch,checkCh pre l=0→(pre.map (·.1)).Nodup→((pre ++ l).map (·.1)).Nodup∧∀ c∈l,c.1≠0:=by
 induction l with
 |nil=>intro pre _ hn;exact ⟨by simpa using hn,fun c hc=>by simp at hc⟩
 |cons c l ih=>
  intro pre h hn
  unfold checkCh at h
  split at h
  ·omega
  ·split at h
   ·omega
   ·rename_i h0 hh
    have hnot:c.1 ∉ pre.map (·.1):=by
     intro q
     obtain ⟨d,hd,hdc⟩:=List.mem_map.1 q
     apply hh
     unfold hasCh
     rw [List.any_eq_true]
     exact ⟨d,hd,by simpa using hdc⟩
    have hn2:((pre ++ [c]).map (·.1)).Nodup:=by
     rw [List.map_append,List.nodup_append]
     refine ⟨hn,by simp,fun x hx y hy q=>?_⟩
     simp at hy
     subst hy
     exact hnot (q ▸ hx)
    obtain ⟨q1,q2⟩:=ih _ h hn2
    rw [List.append_assoc]at q1
    refine ⟨q1,fun d hd=>?_⟩
    rcases List.mem_cons.1 hd with rfl|hd
    ·exact h0
    ·exact q2 d hd
def tableCh:List Ch→List UInt8
 | []=>[]
 |c :: l=>num c.1 4 ++ num c.2.size 4 ++ tableCh l
def dataCh:List Ch→List UInt8
 | []=>[]
 |c :: l=>c.2.data.toList ++ dataCh l
def magicC:List UInt8:=[80,68,71,67,1]
def bodyCh (l:List Ch):List UInt8:=magicC ++ num l.length 1 ++ tableCh l ++ dataCh l
def built (l:List Ch):ByteArray:=sealed ⟨(bodyCh (sortCh l)).toArray⟩
def buildV (l:List Ch):Value:=
 if buildErr l=0 then .tuple #[.string (built l),.int .i64 0] else .tuple #[.string ⟨#[]⟩,.int .i64 (buildErr l:Nat)]
theorem tableCh_append (a b:List Ch):tableCh (a ++ b)=tableCh a ++ tableCh b:=by
 induction a with
 |nil=>rfl
 |cons c a ih=>simp [tableCh,ih]
theorem dataCh_append (a b:List Ch):dataCh (a ++ b)=dataCh a ++ dataCh b:=by
 induction a with
 |nil=>rfl
 |cons c a ih=>simp [dataCh,ih]
theorem tableCh_length (l:List Ch):(tableCh l).length=8 * l.length:=by
 induction l with
 |nil=>rfl
 |cons c l ih=>simp [tableCh,ih,num_length];omega
theorem dataCh_length (l:List Ch):(dataCh l).length=dataSize l:=by
 induction l with
 |nil=>rfl
 |cons c l ih=>simp [dataCh,dataSize,ih]
theorem dataSize_perm {a b:List Ch} (h:a.Perm b):dataSize a=dataSize b:=by
 induction h with
 |nil=>rfl
 |cons c _ ih=>simp [dataSize,ih]
 |swap c d l=>simp [dataSize];omega
 |trans _ _ i1 i2=>exact i1.trans i2
def Small (l:List Ch):Prop:=∀ c∈l,c.1<4294967296∧c.2.size≤140737488355328
theorem sl_chIs {w:World} {S:Nat→Prop} {v:Value} {l:List Ch} (h:Sl w S 285 2 v (ccells l) l.length) (hs:Small l):∃ a cap,v = .slice a l.length cap∧ChIs w a cap l:=by
 obtain ⟨a,cap,hv,h1,h2⟩:=h.value
 refine ⟨a,cap,hv,h1,h2,hs,fun h0=>?_⟩
 obtain ⟨g,off,cap2,hv2,-,-,-,hc,-,hlt⟩:=h.opens h0
 rw [hv]at hv2
 injection hv2 with e1 e2 e3
 subst e1
 refine ⟨g,off,rfl,hlt,fun i c hi=>?_⟩
 have hil:=(List.getElem?_eq_some_iff.1 hi).1
 obtain ⟨g1,g2⟩:=ccells_get l i c hi
 exact ⟨(hc (i * 2) (by omega)).trans g1,by rw [Nat.add_assoc];exact (hc (i * 2+1) (by omega)).trans g2⟩
theorem ccells_append (a b:List Ch):ccells (a ++ b)=ccells a ++ ccells b:=by
 induction a with
 |nil=>rfl
 |cons c a ih=>simp [ccells,ih]
theorem sortCh_length (l:List Ch):(sortCh l).length=l.length:=(sortCh_perm l).length_eq
theorem sl_bound {w:World} {S:Nat→Prop} {e:TypeId} {size:Nat} {v:Value} {xs:List Value} {n:Nat} (h:Sl w S e size v xs n):Sl w (fun b=>S b∧b<w.heap.size) e size v xs n:=by
 refine ⟨h.1,?_⟩
 rcases h.2 with h|⟨g,off,cap,cur,h1,h2,h3,h4⟩
 ·exact .inl h
 ·exact .inr ⟨g,off,cap,cur,h1,⟨h2,lt_of_block h3⟩,h3,h4⟩
theorem ccells_one (l:List Ch):∀ u∈ccells l,u.oneCell'=true:=by
 intro u hu
 obtain ⟨j,hj⟩:=List.getElem?_of_mem hu
 obtain ⟨i,c,hi,⟨_,rfl⟩|⟨_,rfl⟩⟩:=ccells_at l j u hj <;> rfl
theorem src_ch (c:Ch) (w:World):Src Tryz.prog 2 273 (.slice (some ⟨w.heap.size,0,none⟩) 1 1) 1 (ccells [c]) (w.alloc (.cells #[.int .u32 (c.1:Nat),.string c.2] 285)):=by
 refine Src.ofSlice _ Tryz.underlying273 ⟨w.heap.size,0,none⟩ 1 1 _ rfl (fun j u hj=>?_) (ccells_one _)
 rw [Addr.add_lit,Nat.zero_add]
 refine cell_of (heap_alloc_last w _) j u ?_
 rcases j with _|_|j
 ·simpa [ccells] using hj
 ·simpa [ccells] using hj
 ·simp [ccells]at hj
end Go.Proofs.YtofcogekgcgjhaaGreatDoor
