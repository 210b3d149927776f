/- Packed. -/
import Derived.Test.YtofcogekgcgjhaaGreatDoorZzbc
import Derived.Test.YtofcogekgcgjhaaGreatDoorZzbb
set_option linter.unusedVariables false
set_option linter.unusedSimpArgs false
set_option maxRecDepth 100000
namespace Go.Proofs.YtofcogekgcgjhaaGreatDoor
open Go.RowKit Go.Mine Go.Mine.Ac
structure Ix where
 links:List Ch.Ln
 graphs:List Gr
def Ix.len (x:Ix):Int:=Ch.totLn x.links
def noIx:Ix:=⟨[],[]⟩
structure IxOk (x:Ix):Prop where
 many:x.links.length≤8
 both:x.graphs.length=x.links.length
 link:∀ l∈x.links,0≤l.1∧l.1≤1073741824∧1≤l.2.1∧l.2.1≤65536∧l.2.2<4294967296
 graph:∀ (i:Nat) (g:Gr),x.graphs[i]? = some g→goodG g∧g.base=Ch.totLn (x.links.take i)∧∃ l,x.links[i]? = some l∧l.2.1=g.rows.length
def GraphsAt (w:World) (rl:Nat→Nat) (gv:Value) (l:List Gr):Prop:=
 ∃ gvs,Sl w (fun b=>rl b=3) 123 6 gv gvs l.length∧∀ (i:Nat) (g:Gr),l[i]? = some g→∃ a cap,gvs[i * 6]? = some (.int .i64 g.base)∧gvs[i * 6+1]? = some (.int .i64 g.h)∧gvs[i * 6+2]? = some (.int .i64 g.p)∧gvs[i * 6+3]? = some (.int .i64 g.m)∧gvs[i * 6+4]? = some (.int .u32 (g.seed:Nat)) ∧
  gvs[i * 6+5]? = some (.slice a g.rows.length cap)∧GrOk g∧RwIs w (fun b=>rl b=4) a cap g.rows
structure IxAt (w:World) (rl:Nat→Nat) (p:Nat) (dv lv gv:Value) (x:Ix):Prop where
 r1:rl p=1
 blk:Blk w p #[dv,lv,gv] 116
 links:Sl w (fun b=>rl b=2) 120 3 lv (Ch.lcells x.links) x.links.length
 graphs:GraphsAt w rl gv x.graphs
 bnd:∀ b,rl b≠0→b<w.heap.size
theorem GraphsAt.turned {w w' : World} {T:Nat→Prop} {rl:Nat→Nat} {gv:Value} {l:List Gr} (h:GraphsAt w rl gv l) (ht:Turned T w w') (hT:∀ b,rl b≠0→¬ T b):GraphsAt w' rl gv l:=by
 obtain ⟨gvs,h1,h2⟩:=h
 refine ⟨gvs,h1.turned ht fun b hb=>hT b (by omega),fun i g hi=>?_⟩
 obtain ⟨a,cap,e0,e1,e2,e3,e4,e5,e6,e7⟩:=h2 i g hi
 exact ⟨a,cap,e0,e1,e2,e3,e4,e5,e6,e7.turned ht fun b hb=>hT b (by omega)⟩
theorem IxAt.turned {w w' : World} {U:Nat→Prop} {rl:Nat→Nat} {p:Nat} {dv lv gv:Value} {x:Ix} (h:IxAt w rl p dv lv gv x) (ht:Turned U w w') (hU:∀ b,rl b≠0→¬ U b):IxAt w' rl p dv lv gv x:=
 ⟨h.r1,(ht.block _ (lt_of_block h.blk) (hU _ (by rw [h.r1];decide))).trans h.blk,h.links.turned ht fun b hb=>hU b (by omega),h.graphs.turned ht hU,fun b hb=>Nat.lt_of_lt_of_le (h.bnd b hb) ht.size⟩
theorem LnOk.of {x:Ix} (h:IxOk x):Ch.LnOk x.links:=fun l hl=>by
 obtain ⟨h1,h2,h3,h4,h5⟩:=h.link l hl
 exact ⟨⟨by omega,by omega⟩,⟨by omega,by omega⟩,h5⟩
theorem tot_take {x:Ix} (h:IxOk x) (j:Nat):0≤Ch.totLn (x.links.take j)∧Ch.totLn (x.links.take j)≤65536 * 8:=by
 have:=Ch.tot_bound (x.links.take j) fun l hl=>by
  obtain ⟨h1,h2,h3,h4,h5⟩:=h.link l (List.mem_of_mem_take hl)
  exact ⟨h3,h4⟩
 have h2:(x.links.take j).length≤8:=by rw [List.length_take];have:=h.many;omega
 omega
theorem xlen_any {w:World} {rl:Nat→Nat} {p:Nat} {dv lv gv:Value} {x:Ix} (h:IxAt w rl p dv lv gv x) (hok:IxOk x):Calls Tryz.prog 15 #[pt p] w fun e w'=>e = .returned (.int .i64 x.len)∧Turned (fun _=>False) w w':=by
 obtain ⟨a,cap,rfl,hl⟩:=Ch.sl_lnIs h.links (LnOk.of hok)
 have ht:=Ch.total_any a cap x.links w hl (fun j=>by have:=tot_take hok j;exact ⟨by omega,by omega⟩) (by have:=hok.many;omega)
 have c1:w.cell? ⟨p,1,none⟩=some (.slice a x.links.length cap):=cell_of h.blk 1 _ rfl
 have hlt:=lt_of_block h.blk
 unfold Ix.len
 generalize Ch.totLn x.links=T at *
 generalize x.links.length=L at *
 clear h hok hl
 go_enter Tryz.func15,Tryz.ntmps15
 go_wp2_with (go_at_call 58;(with_reducible refine ht.mono ?_);rintro e w' ⟨rfl,q⟩;replace q:Hid _:=hidS q)
 go_ret
 exact ⟨rfl,q.out⟩
theorem xlen_nil (w:World):Calls Tryz.prog 15 #[.pointer none] w fun e w'=>e = .returned (.int .i64 0)∧w=w':=by
 go_enter Tryz.func15,Tryz.ntmps15
 go_wp2
 go_ret
 exact ⟨rfl,rfl⟩
theorem meth_commit (p:Nat) (w:World):(method 518 34 (pt p) "Commit").run Tryz.prog w = .ok (192,pt p) w:=by kernel_rfl
theorem meth_tree (p:Nat) (w:World):(method 518 34 (pt p) "Tree").run Tryz.prog w = .ok (104,pt p) w:=by kernel_rfl
theorem meth_commits (p:Nat) (w:World):(method 518 34 (pt p) "Commits").run Tryz.prog w = .ok (30,pt p) w:=by kernel_rfl
def contentS (s:St) (n:Int):List Ent:=(treeS s (commitS s n).1.tree).1
def CtnPost (w:World) (s:St) (n:Int) (e:Ending) (w' : World):Prop:=
 ∃ v,e = .returned v∧Sl w' (fun b=>w.heap.size≤b) 96 2 v (ecells (contentS s n)) (contentS s n).length∧Turned (fun _=>False) w w'
set_option maxHeartbeats 1000000 in
theorem xcontent_any {w:World} {rs:Nat→Nat} {p:Nat} {dv tv cv:Value} {s:St} (h:StAt 140 w rs p dv tv cv s) (n:Int) (hL:s.commits.length≤1000000) (hP:∀ c∈s.commits,c.par.length≤1000000) (hT:s.trees.length≤1000000) (hQ:∀ t∈s.trees,t.length≤1000000) :
  Calls Tryz.prog 141 #[.iface 34 (pt p),.int .i64 n] w (CtnPost w s n):=by
 obtain ⟨Z,hZ⟩:∃ Z,Z=CtnPost w s n:=⟨_,rfl⟩
 have HZ:Hid (Z=CtnPost w s n):=hZ
 rw [←hZ]
 have m1:=meth_commit p
 have m2:=meth_tree p
 have hc:=scommit_any h n hL hP
 obtain ⟨ct,hct⟩:∃ ct,ct=(commitS s n).1.tree:=⟨_,rfl⟩
 have HC:Hid (Calls Tryz.prog 192 #[pt p,.int .i64 n] w fun e w'=>∃ v k,e = .returned (.tuple #[.agg #[v,.int .i64 ct],.int .i64 k])∧(∃ a c c',v = .slice a c c')∧Turned (fun _=>False) w w'):=hc.mono fun e w' ⟨v,a,b,t⟩=>by
  obtain ⟨a',c',e1,-,-⟩:=b.value
  exact ⟨v,_,by rw [a,hct],⟨a',_,c',e1⟩,t⟩
 have HT:Hid (∀ W,Turned (fun _=>False) w W→Calls Tryz.prog 104 #[pt p,.int .i64 ct] W fun e w'=>∃ v k,e = .returned (.tuple #[v,.int .i64 k])∧Sl w' (fun b=>w.heap.size≤b) 96 2 v (ecells (contentS s n)) (contentS s n).length∧Turned (fun _=>False) w w'):=fun W q=>(stree_any (h.turned q fun _ _ z=>z) ct hT hQ).mono fun e w' ⟨v,a,b,t⟩=>by
  refine ⟨v,_,a,?_,q.trans t fun _ _ z=>z⟩
  unfold contentS
  rw [←hct]
  exact b.widen fun x hx=>Nat.le_trans q.size hx
 clear hZ hc h hct hL hP hT hQ
 go_enter Tryz.func141,Tryz.ntmps141
 go_wp2_with (first|(go_at_call 192;(with_reducible refine HC.out.mono ?_);rintro e w1 ⟨v,k,rfl,⟨a1,a2,a3,rfl⟩,q⟩;replace q:Hid _:=hidS q)|(go_at_call 104;(first|(with_reducible refine (HT.out _ q.out).mono ?_)|(with_reducible refine (HT.out _ (q.out.new _)).mono ?_));rintro e w2 ⟨v,k2,rfl,hsl,q2⟩;obtain ⟨ca,cc,rfl,-,-⟩:=hsl.value;replace hsl:Hid _:=hidS hsl;replace q2:Hid _:=hidS q2))
 rw [HZ.out]
 exact ⟨_,rfl,hsl.out,q2.out⟩
def readyE (x:Ix) (s:St) (g:Stg):Nat:=if ¬ goodStg g∨(s.commits.length:Int)<x.len then 1 else 0
set_option maxHeartbeats 1000000 in
theorem xready_any {w:World} {rx rs:Nat→Nat} {p q:Nat} {dv lv gv dv2 tv cv:Value} {x:Ix} {s:St} (hx:IxAt w rx p dv lv gv x) (hok:IxOk x) (hs:StAt 140 w rs q dv2 tv cv s) (g:Stg) :
  Calls Tryz.prog 61 #[pt p,.iface 34 (pt q),stgv g] w fun e w'=>e = .returned (.int .i64 (readyE x s g:Nat))∧Turned (fun _=>False) w w':=by
 have m1:=meth_commits q
 have HCK:Hid (∀ W,Turned (fun _=>False) w W→Calls Tryz.prog 131 #[stgv g] W fun e w'=>e = .returned (.int .i64 (if goodStg g then 0 else 1))∧Turned (fun _=>False) w w'):=fun W z=>(bcheck_any g W).mono fun e w' ⟨a,b⟩=>⟨a,z.trans b fun _ _ y=>y⟩
 have HL:Hid (∀ W,Turned (fun _=>False) w W→Calls Tryz.prog 15 #[pt p] W fun e w'=>e = .returned (.int .i64 x.len)∧Turned (fun _=>False) w w'):=fun W z=>(xlen_any (hx.turned z fun _ _ y=>y) hok).mono fun e w' ⟨a,b⟩=>⟨a,z.trans b fun _ _ y=>y⟩
 have HC:Hid (∀ W,Turned (fun _=>False) w W→Calls Tryz.prog 30 #[pt q] W fun e w'=>e = .returned (.int .i64 (s.commits.length:Nat))∧Turned (fun _=>False) w w'):=fun W z=>(scommits_any (hs.turned z fun _ _ y=>y)).mono fun e w' ⟨a,b⟩=>⟨a,b ▸ z⟩
 have HR:Hid (readyE x s g=if ¬ goodStg g∨(s.commits.length:Int)<x.len then 1 else 0):=rfl
 generalize readyE x s g=r at *
 generalize s.commits.length=c at *
 generalize x.len=L at *
 have Q0:Hid (Turned (fun _=>False) w w):=Turned.refl _ _
 clear hx hok hs
 by_cases hg:goodStg g
 ·rw [if_pos hg] at HCK
  by_cases hc:(c:Int)<L
  ·have HE : Hid (r = 1) := hidS (by rw [HR.out, if_pos (.inr hc)])
   have e1:decide ((c:Int)<L)=true:=by simp [hc]
   clear hg hc HR
   go_enter Tryz.func61,Tryz.ntmps61
   go_wp2_with (first|(go_at_call 131;(with_reducible refine (HCK.out _ (Q0.out.new _)).mono ?_);rintro e wx ⟨rfl,qx⟩;clear Q0;have Q0:Hid _:=hidS qx;clear qx)|(go_at_call 30;(with_reducible refine (HC.out _ Q0.out).mono ?_);rintro e wx ⟨rfl,qx⟩;clear Q0;have Q0:Hid _:=hidS qx;clear qx)|(go_at_call 15;(with_reducible refine (HL.out _ Q0.out).mono ?_);rintro e wx ⟨rfl,qx⟩;clear Q0;have Q0:Hid _:=hidS qx;clear qx))
   go_ret
   exact ⟨by rw [HE.out];rfl,Q0.out⟩
  ·have HE : Hid (r = 0) := hidS (by rw [HR.out, if_neg (fun z => z.elim (fun z => z hg) hc)])
   have e1:decide ((c:Int)<L)=false:=by simp;omega
   clear hg hc HR
   go_enter Tryz.func61,Tryz.ntmps61
   go_wp2_with (first|(go_at_call 131;(with_reducible refine (HCK.out _ (Q0.out.new _)).mono ?_);rintro e wx ⟨rfl,qx⟩;clear Q0;have Q0:Hid _:=hidS qx;clear qx)|(go_at_call 30;(with_reducible refine (HC.out _ Q0.out).mono ?_);rintro e wx ⟨rfl,qx⟩;clear Q0;have Q0:Hid _:=hidS qx;clear qx)|(go_at_call 15;(with_reducible refine (HL.out _ Q0.out).mono ?_);rintro e wx ⟨rfl,qx⟩;clear Q0;have Q0:Hid _:=hidS qx;clear qx))
   go_ret
   exact ⟨by rw [HE.out];rfl,Q0.out⟩
 ·rw [if_neg hg] at HCK
  have HE:Hid (r=1):=hidS (by rw [HR.out,if_pos (.inl hg)])
  clear hg HR
  go_enter Tryz.func61,Tryz.ntmps61
  go_wp2_with (go_at_call 131;(with_reducible refine (HCK.out _ (Q0.out.new _)).mono ?_);rintro e wx ⟨rfl,qx⟩;clear Q0;have Q0:Hid _:=hidS qx;clear qx)
  go_ret
  exact ⟨by rw [HE.out];rfl,Q0.out⟩
structure SBox (w:World) (rs:Nat→Nat) (b p:Nat) (dv tv cv:Value) (s:St):Prop where
 box:w.heap[b]? = some (.cells #[pt p] 34)
 st:StAt 140 w rs p dv tv cv s
theorem SBox.turned {w w' : World} {rs:Nat→Nat} {b p:Nat} {dv tv cv:Value} {s:St} (h:SBox w rs b p dv tv cv s) (ht:Turned (fun _=>False) w w'):SBox w' rs b p dv tv cv s:=⟨boxed h.box ht id,h.st.turned ht fun _ _ q=>q⟩
theorem known158_any {w:World} {rs:Nat→Nat} {b p:Nat} {dv tv cv:Value} {s:St} (h:SBox w rs b p dv tv cv s) (x:Int):Calls Tryz.prog 158 #[.int .i64 x,pt b] w fun e w'=>e = .returned (.bool (decide ((s.commits.length:Int)≤x)))∧Turned (fun _=>False) w w':=by
 obtain ⟨cvs,hs,-⟩:=h.st.commits
 obtain ⟨a,cap,rfl,-,-⟩:=hs.value
 have c0:w.cell? ⟨b,0,none⟩=some (pt p):=cell_of h.box 0 _ rfl
 have c2:w.cell? ⟨p,2,none⟩=some (.slice a s.commits.length cap):=cell_of h.st.blk 2 _ rfl
 have hlt:=lt_of_block h.st.blk
 have hlb:=lt_of_block h.box
 clear h hs
 generalize s.commits.length=L at *
 by_cases hx:(L:Int)≤x
 ·have e1 : decide ((L : Int) ≤ x) = true := decide_eq_true hx
  rw [e1]
  clear hx
  go_enter Tryz.func158,Tryz.ntmps158
  go_wp2
  go_ret
  exact ⟨rfl,Turned.refl _ _⟩
 ·have e1 : decide ((L : Int) ≤ x) = false := decide_eq_false hx
  rw [e1]
  clear hx
  go_enter Tryz.func158,Tryz.ntmps158
  go_wp2
  go_ret
  exact ⟨rfl,Turned.refl _ _⟩
def highI (l:List Int) (L:Nat):Bool:=l.any fun x=>decide ((L:Int)≤x)
def KxRel (w:World) (l:List Int) (L:Nat) (g:Nat) (i:Value) (wr:World):Prop:=
 ∃ j:Nat,j+g=l.length∧i = .int .i64 (j:Nat)∧(∀ (t:Nat) x,t<j→l[t]? = some x→¬ (L:Int)≤x)∧Turned (fun _=>False) w wr
def KxPost (w:World) (l:List Int) (L:Nat) (e:Ending) (w' : World):Prop:=
 Turned (fun _=>False) w w'∧((highI l L=false∧e = .returned (.int .i64 (-1)))∨(highI l L=true∧∃ j:Nat,e = .returned (.int .i64 (j:Nat))))
set_option maxHeartbeats 1000000 in
theorem kindex_any {w:World} {rs:Nat→Nat} {b p:Nat} {dv tv cv:Value} {s:St} (h:SBox w rs b p dv tv cv s) {S:Nat→Prop} {a:Option Addr} {cap:Nat} {l:List Int} (hi:Ints w S a cap l) :
  Calls Tryz.prog 238 #[.slice a l.length cap,.func (.func 158) #[] #[pt b]] w (KxPost w l s.commits.length):=by
 obtain ⟨D,hD⟩:∃ D,D=KxPost w l s.commits.length:=⟨_,rfl⟩
 have HD:Hid (D=KxPost w l s.commits.length):=hD
 rw [←hD]
 have H:Hid (Ints w S a cap l):=hi
 have HK:Hid (∀ W,Turned (fun _=>False) w W→∀ x,Calls Tryz.prog 158 #[.int .i64 x,pt b] W fun e w'=>e = .returned (.bool (decide ((s.commits.length:Int)≤x)))∧Turned (fun _=>False) W w'):=fun W q x=>known158_any (h.turned q) x
 obtain ⟨L,hL⟩:∃ L,L=l.length:=⟨_,rfl⟩
 have HL:Hid (L=l.length):=hL
 rw [←hL]
 have hcap:Hid (L≤9223372036854775807):=(by rw [hL];have:=hi.1;have:=hi.2.1;simp only [maxLen]at this;omega:L≤9223372036854775807)
 have HS:Hid (KxRel w l s.commits.length L (.int .i64 0) w):=⟨0,by rw [hL,Nat.zero_add],rfl,fun t d ht=>by omega,Turned.refl _ _⟩
 generalize s.commits.length=M at *
 clear h hL hi hD
 go_enter Tryz.func238,Tryz.ntmps238
 go_wp2
 go_loopg [8] L (fun g i wr=>KxRel w l M g i wr)
 case atStart=>exact HS.out
 case round=>
  obtain ⟨j,hjg,rfl,hno,ht⟩:=hrel
  have N:Hid (∀ (t:Nat) x,t<j→l[t]? = some x→¬ (M:Int)≤x):=hno
  have T:Hid (Turned (fun _=>False) w wr):=ht
  have G:Hid (j+gk=l.length):=hjg
  clear hno ht hjg HS
  by_cases hlt:j<L
  ·obtain ⟨x, hx⟩ : ∃ x, l[j]? = some x := ⟨_, List.getElem?_eq_getElem (by rw [← HL.out]; exact hlt)⟩
   obtain ⟨b2,off,rfl,-,hbw,c0⟩:=ints_at (H.out.turned T.out fun _ _ q=>q) j x hx
   have HW:Hid (wrap64 ((j:Int)+1)=((j+1:Nat):Int)):=hidS (by have:=hcap.out;simp [wrap64];omega)
   have C:Hid (l[j]? = some x):=hx
   have hs:=HK.out wr T.out x
   clear hx
   by_cases hid:(M:Int)≤x
   ·rw [decide_eq_true hid] at hs
    have HI:Hid ((M:Int)≤x):=hid
    clear hid
    go_wp2_with (go_at_call 158;(with_reducible refine hs.mono ?_);rintro e w2 ⟨rfl,ht2⟩;have T2:Hid (Turned (fun _=>False) wr w2):=ht2;clear ht2)
    rw [HD.out]
    refine ⟨T.out.trans T2.out fun _ _ q=>q,.inr ⟨?_,j,rfl⟩⟩
    unfold highI
    rw [List.any_eq_true]
    exact ⟨x,List.mem_of_getElem? C.out,by simpa using HI.out⟩
   ·rw [decide_eq_false hid] at hs
    have HI:Hid (¬ (M:Int)≤x):=hid
    clear hid
    go_wp2_with (go_at_call 158;(with_reducible refine hs.mono ?_);rintro e w2 ⟨rfl,ht2⟩;have T2:Hid (Turned (fun _=>False) wr w2):=ht2;clear ht2)
    go_roundg (gk - 1)
    case measure=>have:=G.out;have:=HL.out;omega
    case rel=>
     refine ⟨j+1,by have:=G.out;have:=HL.out;omega,by rw [HW.out],fun t e ht hd=>?_,T.out.trans T2.out fun _ _ q=>q⟩
     rcases Nat.lt_or_eq_of_le (Nat.le_of_lt_succ ht) with q|q
     ·have:=N.out t e q hd;omega
     ·rw [q,C.out]at hd;obtain rfl:=Option.some.inj hd;have:=HI.out;omega
  ·go_wp2
   rw [HD.out]
   refine ⟨T.out,.inl ⟨?_,rfl⟩⟩
   unfold highI
   rw [List.any_eq_false]
   intro c hc
   obtain ⟨t,ht⟩:=List.getElem?_of_mem hc
   have:=(List.getElem?_eq_some_iff.1 ht).1
   simpa using N.out t c (by have:=HL.out;omega) ht
set_option maxHeartbeats 1000000 in
theorem kcontains_any {w:World} {rs:Nat→Nat} {b p:Nat} {dv tv cv:Value} {s:St} (h:SBox w rs b p dv tv cv s) {S:Nat→Prop} {a:Option Addr} {cap:Nat} {l:List Int} (hi:Ints w S a cap l) :
  Calls Tryz.prog 157 #[.slice a l.length cap,.func (.func 158) #[] #[pt b]] w fun e w'=>e = .returned (.bool (highI l s.commits.length))∧Turned (fun _=>False) w w':=by
 have hi:=kindex_any h hi
 clear h
 generalize hb:highI l s.commits.length=r
 have B:Hid (highI l s.commits.length=r):=hb
 clear hb
 go_enter Tryz.func157,Tryz.ntmps157
 go_wp2_with fail
 refine hi.mono ?_
 rintro e w1 ⟨ht,⟨h1,rfl⟩|⟨h1,j,rfl⟩⟩
 ·rw [B.out] at h1
  subst h1
  go_wp2
  go_ret
  exact ⟨rfl,ht⟩
 ·rw [B.out] at h1
  subst h1
  have hj:decide ((0:Int)≤(j:Int))=true:=by simp
  go_wp2
  go_ret
  exact ⟨rfl,ht⟩
theorem known_eq (s:St) (c:Cm):knownS s c=(decide (c.tree<s.trees.length) && !highI c.par s.commits.length):=by
 unfold knownS highI
 congr 1
 rw [Bool.eq_iff_iff]
 simp only [List.all_eq_true,decide_eq_true_eq,Bool.not_eq_true',List.any_eq_false]
 exact ⟨fun h x hx q=>by have:=h x hx;omega,fun h x hx=>by have:=h x hx;omega⟩
def mkV (s:Stg) (l:List ByteArray):Value:=if goodStg s then .tuple #[fltv (makeF s l),.int .i64 0] else .tuple #[fltv ⟨0,⟨#[]⟩⟩,.int .i64 1]
def MkPost (w:World) (s:Stg) (l:List ByteArray) (e:Ending) (w' : World):Prop:=e = .returned (mkV s l)∧Turned (fun _=>False) w w'
theorem info5z:(Tryz.prog.info? 5).map (fun i=>(i.zero,i.size,i.bytes))=some (some (.int .u8 0),1,1):=by kernel_rfl
theorem make_bytes (n:Nat) (hn:n≤281474976710656) (w:World):(Instr.makeSlice 83 (.int .i64 n) (.int .i64 n)).run Tryz.prog w = .ok (.slice (some ⟨w.heap.size,0,none⟩) n n) (w.alloc (.cells (madeCells #[.int .u8 0] (n * 1)) 5)):=by
 obtain ⟨i,hi,hz0,hz1,hz2⟩:=info_parts info5z
 have:=run_make (P:=Tryz.prog) w 83 5 i _ Tryz.underlying83 hi hz0 .i64 .i64 n n (by omega) (by omega) (by rw [hz2];omega) (by omega)
 rw [hz1]at this
 simp only [Value.cells,Int.toNat_natCast]at this
 exact this
theorem bytes_sl (n:Nat) (hn:n≤maxLen) (w:World) (S:Nat→Prop) (hS:S w.heap.size):Sl (w.alloc (.cells (madeCells #[.int .u8 0] (n * 1)) 5)) S 5 1 (.slice (some ⟨w.heap.size,0,none⟩) n n) (bcells (bytesU n fun _=>false)) n:=by
 refine ⟨by rw [bcells_length,bytesU_len];omega,.inr ⟨_,0,n,_,rfl,hS,heap_alloc_new _ _,Nat.le_refl _,hn,by simp [madeCells],?_⟩⟩
 rw [bytesU_none]
 apply List.ext_getElem?
 intro j
 simp only [bcells,List.getElem?_map]
 by_cases hj:j<n
 ·simp [madeCells,hj,Nat.mod_one]
 ·simp [madeCells,hj]
theorem _root_.Go.Mine.Turned.fresh {a w:World} (h:Turned (fun _=>False) a w) {b o:Nat} (hb:a.heap.size≤b) (v:Value):Turned (fun _=>False) a (w.setCell ⟨b,o,none⟩ v):=
 h.comp (Turned.setCell (S:=(· = b)) (p:=⟨b,o,none⟩) rfl v) fun i hi q=>q.elim id fun q=>by omega
theorem many_arith (n pp:Nat) (hn:n≤512) (hp:pp≤64):∃ np qn N:Nat,(np=n * pp∧np≤32768∧qn=(np+7) / 8∧N=max 1 qn∧1≤N∧N≤4096)∧wrap64 ((n:Int) * (pp:Int))=(np:Int)∧wrap64 ((np:Int)+7)=(np:Int)+7∧wrap64 (((np:Int)+7).tdiv 8)=(qn:Int) ∧
  ∀ W,(Builtin.max_ #[3,3] 3 #[.int .i64 1,.int .i64 (qn:Int)]).run Tryz.prog W = .ok (.int .i64 (N:Int)) W:=by
 have h0:n * pp≤32768:=Nat.mul_le_mul hn hp
 generalize hq:n * pp=np at *
 have e0:(n:Int) * (pp:Int)=(np:Int):=by rw [←hq];push_cast;rfl
 refine ⟨np,(np+7) / 8,max 1 ((np+7) / 8),⟨rfl,h0,rfl,rfl,by omega,by omega⟩,?_,?_,?_,fun W=>?_⟩
 ·rw [e0];simp only [wrap64];omega
 ·simp only [wrap64];omega
 ·have : ((np : Int) + 7).tdiv 8 = (((np + 7) / 8 : Nat) : Int) := by rw [Int.tdiv_eq_ediv_of_nonneg (by omega)]; omega
  rw [this];simp only [wrap64];omega
 ·generalize (np + 7) / 8 = qn at *
  by_cases h1:(1:Int)<(qn:Int)
  ·have : max 1 qn = qn := by omega
   simp [Builtin.max_,Builtin.max2,h1,this]
  ·have : max 1 qn = 1 := by omega
   simp [Builtin.max_,Builtin.max2,h1,this]
def valB:Value→ByteArray | .string p=>p|_=>⟨#[]⟩
def keyB (e:MapEntry):ByteArray:=valB e.key
theorem keyB_eq {e:MapEntry} {p:ByteArray} (h:e.key = .string p):keyB e=p:=by unfold keyB;rw [h];rfl
theorem keys_perm {vis es:List MapEntry} {l:List ByteArray} (h1:vis.Perm es) (h2:(es.map (·.key)).Perm (l.map Value.string)):(vis.map keyB).Perm l:=by
 have e1:vis.map keyB=(vis.map (·.key)).map valB:=by rw [List.map_map];rfl
 have e2:l=(l.map Value.string).map valB:=by rw [List.map_map];exact (List.map_id l).symm
 rw [e1,e2]
 exact ((h1.map _).trans h2).map valB
theorem or_byte (b t:Nat) (hb:b<256) (ht:t<8):bits .or .u8 (b:Int) ((2:Int) ^ t % 256)=((b ||| 2 ^ t:Nat):Int)∧b ||| 2 ^ t<256:=by
 have h1:2 ^ t<256:=by
  have:2 ^ t<2 ^ 8:=Nat.pow_lt_pow_right (by omega) ht
  exact this
 have h2:(2:Int) ^ t % 256=((2 ^ t:Nat):Int):=by
  have:(2:Int) ^ t=((2 ^ t:Nat):Int):=by push_cast;rfl
  rw [this]
  generalize 2 ^ t=q at *
  omega
 rw [h2]
 exact ⟨u8_or_nat b (2 ^ t) hb h1,Nat.or_lt_two_pow (n:=8) hb h1⟩
theorem bit_set {w:World} {bb N x y t b:Nat} {P:Nat→Bool} (h:Sl w (· = bb) 5 1 (.slice (some ⟨bb,0,none⟩) N N) (bcells (bytesU N P)) N) (hx:x<8 * N) (hy:y=x / 8) (ht:t=x % 8) (hb:b=byteP P y) (m:Int) (hm:m=(2:Int) ^ t % 256) :
  Sl (w.setCell ⟨bb,y,none⟩ (.int .u8 (bits .or .u8 (b:Int) m))).drew (· = bb) 5 1 (.slice (some ⟨bb,0,none⟩) N N) (bcells (bytesU N fun i=>P i || i == x)) N:=by
 have hb256:b<256:=by rw [hb];exact byteP_lt _ _
 obtain ⟨e1,e2⟩:=or_byte b t hb256 (by omega)
 rw [hm]
 have:=h.set y (by omega) (.int .u8 (bits .or .u8 (b:Int) ((2:Int) ^ t % 256)))
 rw [Nat.zero_add]at this
 rw [←bytesU_set P hx,←hy,←ht,←hb]
 have e3:bcells ((bytesU N P).set y (UInt8.ofNat (b ||| 2 ^ t)))=(bcells (bytesU N P)).set y (.int .u8 (bits .or .u8 (b:Int) ((2:Int) ^ t % 256))):=by
  unfold bcells
  rw [List.map_set,e1,UInt8.toNat_ofNat',Nat.mod_eq_of_lt e2]
 rw [e3]
 exact this.1.drew
def M2Rel (s:Stg) (N:Nat) (es:Array MapEntry) (clock mb r bb:Nat) (W3:World) (g:Nat) (wr:World):Prop:=
 ∃ (seen:Array Nat) (vis:List MapEntry) (c0:Nat),(leftOf es seen).size=g∧Visit es seen vis ∧
  wr.heap[r]? = some (.mapIter (some mb) clock seen c0)∧clock≤c0∧wr.heap[mb]? = some (.map es clock)∧Sl wr (· = bb) 5 1 (.slice (some ⟨bb,0,none⟩) N N) (bcells (bytesU N (bitP s (8 * N) (vis.map keyB)))) N∧Turned (fun b=>b=r∨b=bb) W3 wr
theorem divs_wrap (X:Int) (y:Nat) (h:X.tdiv 8=(y:Int)) (h1:wrap64 (y:Int)=(y:Int)) (h2:IntKind.i64.wrap (y:Int)=(y:Int)):wrap64 (X.tdiv 8)=(y:Int)∧IntKind.i64.wrap (X.tdiv 8)=(y:Int):=by rw [h];exact ⟨h1,h2⟩
theorem wrap_nat (n:Nat) (h:n≤1073741824):wrap64 (n:Int)=(n:Int)∧IntKind.i64.wrap (n:Int)=(n:Int):=⟨by simp only [wrap64];omega,by rw [IntKind.wrap_i64];omega⟩
theorem divs (x y t:Nat) (hy:y=x / 8) (ht:t=x % 8):∃ X:Int,X=(x:Int)∧X.tdiv 8=(y:Int)∧X.tmod 8=(t:Int):=by
 refine ⟨(x:Int),rfl,?_,?_⟩
 ·rw [Int.tdiv_eq_ediv_of_nonneg (by omega)];omega
 ·rw [Int.tmod_eq_emod_of_nonneg (by omega)];omega
def M3Rel (s:Stg) (N:Nat) (l0:List ByteArray) (pl:List Nat) (bb:Nat) (w5:World) (g:Nat) (iv:Value) (wr:World):Prop:=
 ∃ k:Nat,k+g=pl.length∧iv = .int .i64 (k:Nat)∧Sl wr (· = bb) 5 1 (.slice (some ⟨bb,0,none⟩) N N) (bcells (bytesU N (bitQ s (8 * N) l0 (pl.take k)))) N∧Turned (· = bb) w5 wr
def M1Rel (X:World) (mb:Nat) (l:List ByteArray) (g:Nat) (iv:Value) (wr:World):Prop:=
 ∃ j:Nat,j+g=l.length∧iv = .int .i64 (j:Nat)∧MapIs KStr wr mb (setM (l.take j)) (once (l.take j)).length∧Births wr mb∧Turned (· = mb) X wr
def usualS:Stg:=⟨3,10,9,0⟩
theorem usual23_any (w:World):Calls Tryz.prog 23 #[] w fun e w'=>e = .returned (stgv usualS)∧Turned (fun _=>False) w w':=by
 go_enter Tryz.func23,Tryz.ntmps23
 go_wp2
 have hb:=heap_alloc_new w (.cells #[.int .i64 3,.int .i64 10,.int .i64 9,.int .u32 0] 24)
 have x0:(w.alloc (.cells #[.int .i64 3,.int .i64 10,.int .i64 9,.int .u32 0] 24)).cell? ⟨w.heap.size,0,none⟩=some (.int .i64 3):=cell_of hb 0 _ rfl
 have x1:(w.alloc (.cells #[.int .i64 3,.int .i64 10,.int .i64 9,.int .u32 0] 24)).cell? ⟨w.heap.size,1,none⟩=some (.int .i64 10):=cell_of hb 1 _ rfl
 have x2:(w.alloc (.cells #[.int .i64 3,.int .i64 10,.int .i64 9,.int .u32 0] 24)).cell? ⟨w.heap.size,2,none⟩=some (.int .i64 9):=cell_of hb 2 _ rfl
 have x3:(w.alloc (.cells #[.int .i64 3,.int .i64 10,.int .i64 9,.int .u32 0] 24)).cell? ⟨w.heap.size,3,none⟩=some (.int .u32 0):=cell_of hb 3 _ rfl
 refine bodyPost_ret (v:=stgv usualS) (by simp [results,Tryz.results23,go_sem,x0,x1,x2,x3,usualS,stgv]) rfl ?_
 exact ⟨rfl,Turned.alloc _ _ _⟩
abbrev zeroRow:Value:=.agg #[.slice none 0 0,.int .i64 0,.int .i64 0,.int .i64 0,.string ⟨#[]⟩]
abbrev zeroStg:Value:=.agg #[.int .i64 0,.int .i64 0,.int .i64 0,.int .u32 0]
theorem xfind_nil (n:Int) (w:World):Calls Tryz.prog 59 #[.pointer none,.int .i64 n] w fun e w'=>e = .returned (.tuple #[zeroRow,zeroStg,.bool false])∧Turned (fun _=>False) w w':=by
 have hl:=fun W=>xlen_nil W
 obtain ⟨V,hV⟩:∃ V,V=(w.alloc (.cells #[.slice none 0 0,.int .i64 0,.int .i64 0,.int .i64 0,.string ⟨#[]⟩] 48)).alloc (.cells #[.int .i64 0,.int .i64 0,.int .i64 0,.int .u32 0] 24):=⟨_,rfl⟩
 have HVV:Hid (V=(w.alloc (.cells #[.slice none 0 0,.int .i64 0,.int .i64 0,.int .i64 0,.string ⟨#[]⟩] 48)).alloc (.cells #[.int .i64 0,.int .i64 0,.int .i64 0,.int .u32 0] 24)):=hV
 obtain ⟨t0,b1,b2⟩:=two_boxes (w:=w) (.cells #[.slice none 0 0,.int .i64 0,.int .i64 0,.int .i64 0,.string ⟨#[]⟩] 48) (.cells #[.int .i64 0,.int .i64 0,.int .i64 0,.int .u32 0] 24)
 rw [←hV]at t0 b1 b2
 have x0:V.cell? ⟨w.heap.size,0,none⟩=some (.slice none 0 0):=cell_of b1 0 _ rfl
 have x1:V.cell? ⟨w.heap.size,1,none⟩=some (.int .i64 0):=cell_of b1 1 _ rfl
 have x2:V.cell? ⟨w.heap.size,2,none⟩=some (.int .i64 0):=cell_of b1 2 _ rfl
 have x3:V.cell? ⟨w.heap.size,3,none⟩=some (.int .i64 0):=cell_of b1 3 _ rfl
 have x4:V.cell? ⟨w.heap.size,4,none⟩=some (.string ⟨#[]⟩):=cell_of b1 4 _ rfl
 have y0:V.cell? ⟨w.heap.size+1,0,none⟩=some (.int .i64 0):=cell_of b2 0 _ rfl
 have y1:V.cell? ⟨w.heap.size+1,1,none⟩=some (.int .i64 0):=cell_of b2 1 _ rfl
 have y2:V.cell? ⟨w.heap.size+1,2,none⟩=some (.int .i64 0):=cell_of b2 2 _ rfl
 have y3:V.cell? ⟨w.heap.size+1,3,none⟩=some (.int .u32 0):=cell_of b2 3 _ rfl
 have HX:Hid _:=hidS (And.intro x0 (And.intro x1 (And.intro x2 (And.intro x3 (And.intro x4 (And.intro y0 (And.intro y1 (And.intro y2 (And.intro y3 t0)))))))))
 clear x0 x1 x2 x3 x4 y0 y1 y2 y3 t0 b1 b2 hV
 by_cases h:0≤n
 ·have e1 : decide (0 ≤ n) = true := by simp [h]
  have e2:decide (n<0)=false:=by simp;omega
  clear h
  go_enter Tryz.func59,Tryz.ntmps59
  go_wp2_with (go_at_call 15;(with_reducible refine (hl _).mono ?_);rintro e w' ⟨rfl,rfl⟩)
  rw [←HVV.out]
  obtain ⟨x0,x1,x2,x3,x4,y0,y1,y2,y3,t0⟩:=HX.out
  refine bodyPost_ret (v:=.tuple #[zeroRow,zeroStg,.bool false]) (by simp [results,Tryz.results59,go_sem,x0,x1,x2,x3,x4,y0,y1,y2,y3]) rfl ?_
  exact ⟨rfl,t0⟩
 ·have e1 : decide (0 ≤ n) = false := by simp; omega
  clear h
  go_enter Tryz.func59,Tryz.ntmps59
  go_wp2
  rw [←HVV.out]
  obtain ⟨x0,x1,x2,x3,x4,y0,y1,y2,y3,t0⟩:=HX.out
  refine bodyPost_ret (v:=.tuple #[zeroRow,zeroStg,.bool false]) (by simp [results,Tryz.results59,go_sem,x0,x1,x2,x3,x4,y0,y1,y2,y3]) rfl ?_
  exact ⟨rfl,t0⟩
theorem xmay_nil (n:Int) (path:ByteArray) (w:World):Calls Tryz.prog 17 #[.pointer none,.int .i64 n,.string path] w fun e w'=>e = .returned (.bool true)∧Turned (fun _=>False) w w':=by
 have hf:=fun W=>xfind_nil n W
 go_enter Tryz.func17,Tryz.ntmps17
 go_wp2_with (go_at_call 59;(with_reducible refine (hf _).mono ?_);rintro e w' ⟨rfl,q⟩;replace q:Hid _:=hidS q)
 go_ret
 exact ⟨rfl,(q.out.new _).new _⟩
end Go.Proofs.YtofcogekgcgjhaaGreatDoor
