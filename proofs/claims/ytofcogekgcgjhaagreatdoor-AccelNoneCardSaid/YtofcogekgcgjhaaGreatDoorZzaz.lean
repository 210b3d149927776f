/- Packed. -/
import Derived.Test.YtofcogekgcgjhaaGreatDoorZzao
import Derived.Test.YtofcogekgcgjhaaGreatDoorZzax
import Derived.Test.YtofcogekgcgjhaaGreatDoorZzay
import Derived.BigQuiet
import Derived.Lib.ConvBytes
set_option linter.unusedVariables false
set_option linter.unusedSimpArgs false
set_option maxRecDepth 100000
namespace Go.Proofs.YtofcogekgcgjhaaGreatDoor
open Go.RowKit Go.Mine Go.Mine.Ac
/-! ### Trees -/
def Ents (w:World) (S:Nat→Prop) (a:Option Addr) (cap:Nat) (t:List Ent):Prop:=
 t.length≤cap∧cap≤maxLen∧(∀ x∈t,x.2<4294967296) ∧
  (0<t.length→∃ g off,a=some ⟨g,off,none⟩∧S g∧g<w.heap.size∧∀ (i:Nat) (x:Ent),t[i]? = some x→w.cell? ⟨g,off+i * 2,none⟩=some (.string x.1)∧w.cell? ⟨g,off+i * 2+1,none⟩=some (.int .u32 (x.2:Nat)))
theorem Ents.turned {w w' : World} {S T:Nat→Prop} {a:Option Addr} {cap:Nat} {t:List Ent} (h:Ents w S a cap t) (ht:Turned T w w') (hS:∀ b,S b→¬ T b):Ents w' S a cap t:=by
 obtain ⟨h1,h2,h3,h4⟩:=h
 refine ⟨h1,h2,h3,fun q=>?_⟩
 obtain ⟨g,off,rfl,hg,hl,hc⟩:=h4 q
 refine ⟨g,off,rfl,hg,by have:=ht.size;omega,fun i x hx=>?_⟩
 have e:∀ o,w'.cell? ⟨g,o,none⟩=w.cell? ⟨g,o,none⟩:=fun o=>World.cell?_of_block (w':=w') (ht.block g hl (hS g hg))
 rw [e,e]
 exact hc i x hx
theorem Ents.mono {w:World} {S T:Nat→Prop} {a:Option Addr} {cap:Nat} {t:List Ent} (h:Ents w S a cap t) (hS:∀ b,S b→T b):Ents w T a cap t:=by
 obtain ⟨h1,h2,h3,h4⟩:=h
 refine ⟨h1,h2,h3,fun q=>?_⟩
 obtain ⟨g,off,rfl,hg,hl,hc⟩:=h4 q
 exact ⟨g,off,rfl,hS g hg,hl,hc⟩
theorem ents_at {w:World} {S:Nat→Prop} {a:Option Addr} {cap:Nat} {t:List Ent} (h:Ents w S a cap t) (j:Nat) (x:Ent) (hx:t[j]? = some x) :
  ∃ g off,a=some ⟨g,off,none⟩∧S g∧g<w.heap.size∧w.cell? ⟨g,off+j * 2,none⟩=some (.string x.1)∧w.cell? ⟨g,off+j * 2+1,none⟩=some (.int .u32 (x.2:Nat)):=by
 have hj:=(List.getElem?_eq_some_iff.1 hx).1
 obtain ⟨g,off,h1,h2,h3,h4⟩:=h.2.2.2 (by omega)
 exact ⟨g,off,h1,h2,h3,h4 j x hx⟩
theorem Ents.nil (w:World) (S:Nat→Prop):Ents w S none 0 []:=⟨Nat.le_refl _,Nat.zero_le _,by simp,fun h=>absurd h (by simp)⟩
def ecells (t:List Ent):List Value:=t.flatMap fun x=>[.string x.1,.int .u32 (x.2:Nat)]
theorem ecells_len (t:List Ent):(ecells t).length=t.length * 2:=by induction t with|nil=>rfl|cons x t ih=>simp [ecells]at ih ⊢;omega
theorem ecells_get:∀ {t:List Ent} {i:Nat} {x:Ent},t[i]? = some x→(ecells t)[i * 2]? = some (.string x.1)∧(ecells t)[i * 2+1]? = some (.int .u32 (x.2:Nat))
 | [],_,_,h=>by simp at h
 |y :: t,0,x,h=>by simp at h;subst h;simp [ecells]
 |y :: t,i+1,x,h=>by
  have:=ecells_get (t:=t) (i:=i) (by simpa using h)
  simpa [ecells,Nat.add_mul,Nat.add_right_comm] using this
theorem sl_ents {w:World} {S:Nat→Prop} {T:TypeId} {v:Value} {t:List Ent} (h:Sl w S T 2 v (ecells t) t.length) (ht:∀ x∈t,x.2<4294967296):∃ a cap,v = .slice a t.length cap∧Ents w S a cap t:=by
 by_cases h0:0<t.length
 ·obtain ⟨g, off, cap, rfl, hS, hn, hc, hcell, -, hlt⟩ := h.opens h0
  refine ⟨_,cap,rfl,hn,hc,ht,fun _=>⟨g,off,rfl,hS,hlt,fun i x hx=>?_⟩⟩
  have hi:=(List.getElem?_eq_some_iff.1 hx).1
  obtain ⟨e1,e2⟩:=ecells_get hx
  rw [hcell _ (by omega),Nat.add_assoc,hcell _ (by omega)]
  exact ⟨e1,e2⟩
 ·obtain ⟨a, cap, rfl, hn, hc⟩ := h.value
  exact ⟨a,cap,rfl,hn,hc,ht,fun q=>absurd q h0⟩
/-! ### Stores -/
def TreesAt (w:World) (rl:Nat→Nat) (tv:Value) (l:List (List Ent)):Prop:=
 ∃ tvs,Sl w (fun b=>rl b=2) 65 1 tv tvs l.length∧∀ (i:Nat) (t:List Ent),l[i]? = some t→∃ a cap,tvs[i]? = some (.slice a t.length cap)∧Ents w (fun b=>rl b=4) a cap t
def CommitsAt (w:World) (rl:Nat→Nat) (cv:Value) (l:List Cm):Prop:=
 ∃ cvs,Sl w (fun b=>rl b=3) 55 2 cv cvs l.length∧∀ (i:Nat) (c:Cm),l[i]? = some c→∃ a cap,cvs[i * 2]? = some (.slice a c.par.length cap)∧cvs[i * 2+1]? = some (.int .i64 c.tree)∧Ints w (fun b=>rl b=4) a cap c.par
structure StAt (T:TypeId) (w:World) (rl:Nat→Nat) (p:Nat) (dv tv cv:Value) (s:St):Prop where
 r1:rl p=1
 blk:Blk w p #[dv,tv,cv,.bool s.dead] T
 trees:TreesAt w rl tv s.trees
 commits:CommitsAt w rl cv s.commits
 bnd:∀ b,rl b≠0→b<w.heap.size
theorem TreesAt.turned {w w' : World} {T:Nat→Prop} {rl:Nat→Nat} {tv:Value} {l:List (List Ent)} (h:TreesAt w rl tv l) (ht:Turned T w w') (hT:∀ b,rl b≠0→¬ T b):TreesAt w' rl tv l:=by
 obtain ⟨tvs,h1,h2⟩:=h
 refine ⟨tvs,h1.turned ht fun b hb=>hT b (by omega),fun i t hi=>?_⟩
 obtain ⟨a,cap,h3,h4⟩:=h2 i t hi
 exact ⟨a,cap,h3,h4.turned ht fun b hb=>hT b (by omega)⟩
theorem CommitsAt.turned {w w' : World} {T:Nat→Prop} {rl:Nat→Nat} {cv:Value} {l:List Cm} (h:CommitsAt w rl cv l) (ht:Turned T w w') (hT:∀ b,rl b≠0→¬ T b):CommitsAt w' rl cv l:=by
 obtain ⟨tvs,h1,h2⟩:=h
 refine ⟨tvs,h1.turned ht fun b hb=>hT b (by omega),fun i t hi=>?_⟩
 obtain ⟨a,cap,h3,h4,h5⟩:=h2 i t hi
 exact ⟨a,cap,h3,h4,h5.turned ht fun b hb=>hT b (by omega)⟩
theorem TreesAt.roles {w:World} {rl rl' : Nat→Nat} {tv:Value} {l:List (List Ent)} (h:TreesAt w rl tv l) (hr:∀ b,rl b≠0→rl' b=rl b):TreesAt w rl' tv l:=by
 obtain ⟨tvs,h1,h2⟩:=h
 refine ⟨tvs,h1.widen fun b hb=>(hr b (by omega)).trans hb,fun i t hi=>?_⟩
 obtain ⟨a,cap,h3,h4⟩:=h2 i t hi
 exact ⟨a,cap,h3,h4.mono fun b hb=>(hr b (by omega)).trans hb⟩
theorem CommitsAt.roles {w:World} {rl rl' : Nat→Nat} {cv:Value} {l:List Cm} (h:CommitsAt w rl cv l) (hr:∀ b,rl b≠0→rl' b=rl b):CommitsAt w rl' cv l:=by
 obtain ⟨tvs,h1,h2⟩:=h
 refine ⟨tvs,h1.widen fun b hb=>(hr b (by omega)).trans hb,fun i t hi=>?_⟩
 obtain ⟨a,cap,h3,h4,h5⟩:=h2 i t hi
 exact ⟨a,cap,h3,h4,h5.mono fun b hb=>(hr b (by omega)).trans hb⟩
theorem StAt.turned {T:TypeId} {w w' : World} {U:Nat→Prop} {rl:Nat→Nat} {p:Nat} {dv tv cv:Value} {s:St} (h:StAt T w rl p dv tv cv s) (ht:Turned U w w') (hU:∀ b,rl b≠0→¬ U b):StAt T w' rl p dv tv cv s:=
 ⟨h.r1,(ht.block _ (lt_of_block h.blk) (hU _ (by rw [h.r1];decide))).trans h.blk,h.trees.turned ht hU,h.commits.turned ht hU,fun b hb=>Nat.lt_of_lt_of_le (h.bnd b hb) ht.size⟩
theorem StAt.roles {T:TypeId} {w:World} {rl rl' : Nat→Nat} {p:Nat} {dv tv cv:Value} {s:St} (h:StAt T w rl p dv tv cv s) (h1:∀ b,rl b≠0→rl' b=rl b) (h2:∀ b,rl' b≠0→b<w.heap.size):StAt T w rl' p dv tv cv s:=
 ⟨(h1 _ (by rw [h.r1];decide)).trans h.r1,h.blk,h.trees.roles h1,h.commits.roles h1,h2⟩
def StIs (T:TypeId) (w:World) (S:Nat→Prop) (p:Nat) (dv:Value) (s:St):Prop:=∃ rl tv cv,StAt T w rl p dv tv cv s∧∀ b,rl b≠0→S b
theorem StIs.turned {T:TypeId} {w w' : World} {S U:Nat→Prop} {p:Nat} {dv:Value} {s:St} (h:StIs T w S p dv s) (ht:Turned U w w') (hU:∀ b,S b→¬ U b):StIs T w' S p dv s:=by
 obtain ⟨rl,tv,cv,h1,h2⟩:=h
 exact ⟨rl,tv,cv,h1.turned ht fun b hb=>hU b (h2 b hb),h2⟩
theorem StIs.widen {T:TypeId} {w:World} {S U:Nat→Prop} {p:Nat} {dv:Value} {s:St} (h:StIs T w S p dv s) (hU:∀ b,b<w.heap.size→S b→U b):StIs T w U p dv s:=by
 obtain ⟨rl,tv,cv,h1,h2⟩:=h
 exact ⟨rl,tv,cv,h1,fun b hb=>hU b (h1.bnd b hb) (h2 b hb)⟩
theorem counted_any (n:Int) (w:World):Calls Tryz.prog 233 #[.int .i64 n] w fun e w'=>e = .returned (.int .i64 (counted n))∧w=w':=by
 unfold counted
 by_cases h:1023<n
 ·rw [if_pos h]
  have hd:decide (1023<n)=true:=by simp [h]
  clear h
  go_enter Tryz.func233,Tryz.ntmps233
  go_wp2
  go_ret
  exact ⟨rfl,rfl⟩
 ·rw [if_neg h]
  have hd:decide (1023<n)=false:=by simp [h]
  obtain ⟨m,hm⟩:∃ m,m=max n 1:=⟨_,rfl⟩
  have h1:(if n<1 then (1:Int) else n)=m:=by split <;> omega
  have h2:(if 1<n then n else (1:Int))=m:=by split <;> omega
  have h3:(if 1≤n then n else (1:Int))=m:=by split <;> omega
  have h4:(if n≤1 then (1:Int) else n)=m:=by split <;> omega
  rw [←hm]
  clear h hm
  go_enter Tryz.func233,Tryz.ntmps233
  go_wp2
  go_ret
  exact ⟨rfl,rfl⟩
def highG (l:List Int):Int:=l.foldl (fun h p=>max h (counted p)) 0
theorem highG_snoc (l:List Int) (x:Int):highG (l ++ [x])=max (highG l) (counted x):=by unfold highG;rw [List.foldl_append];rfl
theorem counted_le (n:Int):1≤counted n∧counted n≤1024:=by unfold counted;split <;> omega
theorem highG_le (l:List Int):0≤highG l∧highG l≤1024:=by
 have:∀ (k:List Int) (h:Int),0≤h→h≤1024→0≤k.foldl (fun h p=>max h (counted p)) h∧k.foldl (fun h p=>max h (counted p)) h≤1024:=by
  intro k
  induction k with
  |nil=>intro h a b;exact ⟨a,b⟩
  |cons x k ih=>intro h a b;have:=counted_le x;exact ih (max h (counted x)) (by omega) (by omega)
 exact this l 0 (by omega) (by omega)
theorem nextG_eq (l:List Int):nextG l=if 1023≤highG l then highG l else highG l+1:=rfl
def NgRel (w:World) (l:List Int) (g:Nat) (hv iv:Value) (wr:World):Prop:=
 ∃ j:Nat,j+g=l.length∧iv = .int .i64 (j:Nat)∧hv = .int .i64 (highG (l.take j))∧w=wr
set_option maxHeartbeats 1000000 in
theorem next_gen {w:World} {S:Nat→Prop} {a:Option Addr} {cap:Nat} {l:List Int} (h:Ints w S a cap l) (hl:l.length≤1000000) :
  Calls Tryz.prog 143 #[.slice a l.length cap] w fun e w'=>e = .returned (.int .i64 (nextG l))∧w=w':=by
 have H:Hid (Ints w S a cap l):=h
 obtain ⟨r,hr⟩:∃ r,r=nextG l:=⟨_,rfl⟩
 have HR:Hid (r=nextG l):=hr
 rw [←hr]
 obtain ⟨L,hL⟩:∃ L,L=l.length:=⟨_,rfl⟩
 have HL:Hid (L=l.length∧L≤1000000):=⟨hL,by omega⟩
 rw [←hL]
 have B0:Hid (NgRel w l L (.int .i64 0) (.int .i64 0) w):=⟨0,by omega,rfl,rfl,rfl⟩
 clear h hL hl hr
 go_enter Tryz.func143,Tryz.ntmps143
 go_wp2
 go_loopg [3,8] L (fun g hv iv wr=>NgRel w l g hv iv wr)
 case atStart=>exact B0.out
 case round=>
  obtain ⟨j,hjg,rfl,rfl,rfl⟩:=hrel
  have G:Hid (j+gk=l.length):=hjg
  clear hjg B0
  by_cases hlt:j<L
  ·obtain ⟨x, hx⟩ : ∃ x, l[j]? = some x := ⟨_, List.getElem?_eq_getElem (by rw [← HL.out.1]; exact hlt)⟩
   obtain ⟨b,off,rfl,-,hbw,c0⟩:=ints_at H.out j x hx
   have hs:=counted_any x w
   have hq:=highG_le (l.take j)
   have hc:=counted_le x
   have ht1:highG (l.take (j+1))=max (highG (l.take j)) (counted x):=by rw [List.take_add_one,hx];exact highG_snoc _ _
   have HT:Hid (highG (l.take (j+1))=max (highG (l.take j)) (counted x)):=ht1
   have HW:Hid (wrap64 ((j:Int)+1)=((j+1:Nat):Int)):=hidS (by have:=HL.out;simp [wrap64];omega)
   obtain ⟨m,hm⟩:∃ m,m=max (highG (l.take j)) (counted x):=⟨_,rfl⟩
   have HM:Hid (m=max (highG (l.take j)) (counted x)):=hm
   clear hx ht1
   generalize counted x=C at *
   generalize highG (l.take j)=A at *
   have h1:(if A<C then C else A)=m:=by rw [HM.out];split <;> omega
   have h2:(if C<A then A else C)=m:=by rw [HM.out];split <;> omega
   have h3:(if C≤A then A else C)=m:=by rw [HM.out];split <;> omega
   have h4:(if A≤C then C else A)=m:=by rw [HM.out];split <;> omega
   clear hm hq hc
   go_wp2_with (go_at_call 233;(with_reducible refine hs.mono ?_);rintro e w' ⟨rfl,rfl⟩)
   go_roundg (gk - 1)
   case measure=>have:=G.out;have:=HL.out;omega
   case rel=>exact ⟨j+1,by have:=G.out;have:=HL.out;omega,by rw [HW.out],by rw [HT.out,HM.out],rfl⟩
  ·have hj : j = L := by have := G.out; have := HL.out; omega
   subst hj
   have HE:Hid (l.take j=l):=List.take_of_length_le (by have:=HL.out.1;omega)
   have hq:=highG_le l
   have hn:=nextG_eq l
   rw [←HR.out]at hn
   rw [HE.out]
   generalize highG l=A at *
   have hd3:decide (j<j)=false:=by simp
   by_cases hA:1023≤A
   ·rw [if_pos hA] at hn
    have HN:Hid (r=A):=hn
    have hd:decide (1023≤A)=true:=by simp [hA]
    clear hn
    go_wp2
    go_ret
    exact ⟨by rw [HN.out];rfl,rfl⟩
   ·rw [if_neg hA] at hn
    have HN:Hid (r=A+1):=hn
    have hd:decide (1023≤A)=false:=by simp;omega
    clear hn
    go_wp2
    go_ret
    exact ⟨by rw [HN.out];rfl,rfl⟩
abbrev stgv (s:Stg):Value:=.agg #[.int .i64 s.h,.int .i64 s.p,.int .i64 s.m,.int .u32 (s.seed:Nat)]
set_option maxHeartbeats 1000000 in
theorem bcheck_any (s:Stg) (w:World):Calls Tryz.prog 131 #[stgv s] w fun e w'=>e = .returned (.int .i64 (if goodStg s then 0 else 1))∧Turned (fun _=>False) w w':=by
 obtain ⟨k,hk⟩:∃ k:Int,k=if goodStg s then 0 else 1:=⟨_,rfl⟩
 rw [←hk]
 obtain ⟨h,p,m,seed⟩:=s
 unfold stgv
 dsimp only
 by_cases q0:h<1
 ·rw [if_neg (by unfold goodStg; dsimp only; omega)] at hk
  subst hk
  have d0:decide (h<1)=true:=by simp;omega
  clear q0
  go_enter Tryz.func131,Tryz.ntmps131
  go_wp2
  go_ret
  exact ⟨rfl,Turned.alloc _ _ _⟩
 by_cases q1:16<h
 ·rw [if_neg (by unfold goodStg; dsimp only; omega)] at hk
  subst hk
  have d0:decide (h<1)=false:=by simp;omega
  have d1:decide (16<h)=true:=by simp;omega
  clear q0 q1
  go_enter Tryz.func131,Tryz.ntmps131
  go_wp2
  go_ret
  exact ⟨rfl,Turned.alloc _ _ _⟩
 by_cases q2:p<1
 ·rw [if_neg (by unfold goodStg; dsimp only; omega)] at hk
  subst hk
  have d0:decide (h<1)=false:=by simp;omega
  have d1:decide (16<h)=false:=by simp;omega
  have d2:decide (p<1)=true:=by simp;omega
  clear q0 q1 q2
  go_enter Tryz.func131,Tryz.ntmps131
  go_wp2
  go_ret
  exact ⟨rfl,Turned.alloc _ _ _⟩
 by_cases q3:64<p
 ·rw [if_neg (by unfold goodStg; dsimp only; omega)] at hk
  subst hk
  have d0:decide (h<1)=false:=by simp;omega
  have d1:decide (16<h)=false:=by simp;omega
  have d2:decide (p<1)=false:=by simp;omega
  have d3:decide (64<p)=true:=by simp;omega
  clear q0 q1 q2 q3
  go_enter Tryz.func131,Tryz.ntmps131
  go_wp2
  go_ret
  exact ⟨rfl,Turned.alloc _ _ _⟩
 by_cases q4:m<0
 ·rw [if_neg (by unfold goodStg; dsimp only; omega)] at hk
  subst hk
  have d0:decide (h<1)=false:=by simp;omega
  have d1:decide (16<h)=false:=by simp;omega
  have d2:decide (p<1)=false:=by simp;omega
  have d3:decide (64<p)=false:=by simp;omega
  have d4:decide (m<0)=true:=by simp;omega
  clear q0 q1 q2 q3 q4
  go_enter Tryz.func131,Tryz.ntmps131
  go_wp2
  go_ret
  exact ⟨rfl,Turned.alloc _ _ _⟩
 by_cases q5:512<m
 ·rw [if_neg (by unfold goodStg; dsimp only; omega)] at hk
  subst hk
  have d0:decide (h<1)=false:=by simp;omega
  have d1:decide (16<h)=false:=by simp;omega
  have d2:decide (p<1)=false:=by simp;omega
  have d3:decide (64<p)=false:=by simp;omega
  have d4:decide (m<0)=false:=by simp;omega
  have d5:decide (512<m)=true:=by simp;omega
  clear q0 q1 q2 q3 q4 q5
  go_enter Tryz.func131,Tryz.ntmps131
  go_wp2
  go_ret
  exact ⟨rfl,Turned.alloc _ _ _⟩
 rw [if_pos (by unfold goodStg;dsimp only;omega)]at hk
 subst hk
 have d0:decide (h<1)=false:=by simp;omega
 have d1:decide (16<h)=false:=by simp;omega
 have d2:decide (p<1)=false:=by simp;omega
 have d3:decide (64<p)=false:=by simp;omega
 have d4:decide (m<0)=false:=by simp;omega
 have d5:decide (512<m)=false:=by simp;omega
 clear q0 q1 q2 q3 q4 q5
 go_enter Tryz.func131,Tryz.ntmps131
 go_wp2
 go_ret
 exact ⟨rfl,Turned.alloc _ _ _⟩
end Go.Proofs.YtofcogekgcgjhaaGreatDoor
theorem Go.Mine.Turned.drawN {S:Nat→Prop} {a w:Go.World} (h:Go.Mine.Turned S a w) (n:Nat):Go.Mine.Turned S a (w.drewN n):=⟨h.os,h.tape,h.output,h.size,h.block⟩
namespace Go.Proofs.YtofcogekgcgjhaaGreatDoor
open Go.RowKit Go.Mine Go.Mine.Ac
def AkRel (w:World) (a b:ByteArray) (g:Nat) (iv:Value) (wr:World):Prop:=
 ∃ i:Nat,iv = .int .i64 (i:Nat)∧i+g=a.size∧i≤alike a b∧Turned (fun _=>False) w wr
theorem alike_le (a b:ByteArray):alike a b≤a.size∧alike a b≤b.size:=by
 have:=alikeL_le a.data.toList b.data.toList
 simpa [alike] using this
theorem alike_any (a b:ByteArray) (w:World) (ha:a.size≤1000000000) (hb:b.size≤1000000000):Calls Tryz.prog 147 #[.string a,.string b] w fun e w'=>e = .returned (.int .i64 (alike a b:Nat))∧Turned (fun _=>False) w w':=by
 have HA:Hid (a.size≤1000000000∧b.size≤1000000000):=⟨ha,hb⟩
 obtain ⟨r,hr⟩:∃ r,r=alike a b:=⟨_,rfl⟩
 have HR:Hid (r=alike a b):=hr
 rw [←hr]
 obtain ⟨n,hn⟩:∃ n,n=a.size:=⟨_,rfl⟩
 have HN:Hid (n=a.size):=hn
 have B0:Hid (AkRel w a b n (.int .i64 0) w):=⟨0,rfl,by omega,Nat.zero_le _,Turned.refl _ _⟩
 clear ha hb hr hn
 go_enter Tryz.func147,Tryz.ntmps147
 go_wp2
 go_loopg [5] n (fun g v wr=>AkRel w a b g v wr)
 case atStart=>exact B0.out
 case round=>
  obtain ⟨i,rfl,hig,hle,ht⟩:=hrel
  have G:Hid (i+gk=a.size∧i≤alike a b):=⟨hig,hle⟩
  have TT:Hid (Turned (fun _=>False) w wr):=ht
  clear hig hle B0 ht
  obtain ⟨m,hm⟩:∃ m:Nat,m=min a.size b.size:=⟨_,rfl⟩
  have hif:(if b.size<a.size then (b.size:Int) else (a.size:Int))=(m:Int):=by split <;> omega
  by_cases hlt:i<m
  ·have h1 : i < a.size := by omega
   have h2:i<b.size:=by omega
   have hd1:decide ((i:Int)<(m:Int))=true:=by simp;omega
   have hd2:decide (i<m)=true:=by simp;omega
   have HH:Hid (i<a.size∧i<b.size):=⟨h1,h2⟩
   have hq1:=sbyte a i h1
   have hq2:=sbyte b i h2
   have HQ:Hid (a.data.toList[i]? = some a[i]∧b.data.toList[i]? = some b[i]):=⟨hq1,hq2⟩
   have HW:Hid (wrap64 ((i:Int)+1)=((i+1:Nat):Int)):=hidS (by have:=HA.out;simp [wrap64];omega)
   clear hq1 hq2 hm hlt
   by_cases he:a[i]=b[i]
   ·have hb1 : ((a[i].toNat : Int) == (b[i].toNat : Int)) = true := by rw [he]; simp
    have HE:Hid (a[i]=b[i]):=he
    clear he
    go_wp2
    go_quiet (fail)
    go_wp2
    rename_i nq
    go_roundg (gk - 1)
    case measure=>have:=G.out;have:=HH.out;omega
    case rel=>exact ⟨i+1,by rw [HW.out],by have:=G.out;have:=HH.out;omega,alikeL_more G.out.2 HQ.out.1 (by rw [HE.out];exact HQ.out.2),TT.out.drawN nq⟩
   ·have hb1 : ((a[i].toNat : Int) == (b[i].toNat : Int)) = false := by
     rw [beq_eq_false_iff_ne]
     intro q
     exact he (UInt8.toNat_inj.1 (by omega))
    have HE:Hid (alike a b=i):=alikeL_end G.out.2 (.inr (.inr (by rw [HQ.out.1,HQ.out.2];simpa using he)))
    clear he
    go_wp2
    go_quiet (fail)
    go_wp2
    rename_i nq
    go_ret
    exact ⟨by rw [HR.out,HE.out];rfl,TT.out.drawN nq⟩
  ·have hd1 : decide ((i : Int) < (m : Int)) = false := by simp; omega
   have hd2:decide (i<m)=false:=by simp;omega
   have HE:Hid (alike a b=i):=alikeL_end G.out.2 (by simp only [Array.length_toList];change a.size≤i∨b.size≤i∨_;omega)
   clear hm hlt
   go_wp2
   go_quiet (fail)
   go_wp2
   rename_i nq
   go_ret
   exact ⟨by rw [HR.out,HE.out];rfl,TT.out.drawN nq⟩
def prevT (t:List Ent) (i:Nat):Option ByteArray:=if i=0 then none else (t[i - 1]?).map (·.1)
def CtRel (w:World) (t:List Ent) (g:Nat) (iv:Value) (wr:World):Prop:=
 ∃ i:Nat,iv = .int .i64 (i:Nat)∧i+g=t.length∧checkT none t=checkT (prevT t i) (t.drop i)∧Turned (fun _=>False) w wr
def CtPost (w:World) (t:List Ent) (e:Ending) (w' : World):Prop:=e = .returned (.int .i64 (checkT none t:Nat))∧Turned (fun _=>False) w w'
theorem CtPost_eq {t:List Ent} {w:World} (h:checkT none t=0):CtPost w t=fun e w'=>e = .returned (.int .i64 0)∧Turned (fun _=>False) w w':=by unfold CtPost;rw [h];rfl
theorem drop_at {t:List Ent} {i:Nat} {x:Ent} (h:t[i]? = some x):t.drop i=x :: t.drop (i+1):=by
 obtain ⟨hl,e⟩:=List.getElem?_eq_some_iff.1 h
 rw [←e]
 exact List.drop_eq_getElem_cons hl
theorem checkT_long {o:Option ByteArray} {p:ByteArray} {b:Nat} {l:List Ent} (h:255<p.size):checkT o ((p,b) :: l)=5:=by rw [checkT.eq_def];simp [h]
theorem checkT_zero {o:Option ByteArray} {p:ByteArray} {b:Nat} {l:List Ent} (h:¬ 255<p.size) (hb:b=0):checkT o ((p,b) :: l)=1:=by rw [checkT.eq_def];simp [h,hb]
theorem checkT_first {t l:List Ent} {i:Nat} {p:ByteArray} {b:Nat} (hi:i=0) (hx:t[i]? = some (p,b)) (h:¬ 255<p.size) (hb:b≠0):checkT (prevT t i) ((p,b) :: l)=checkT (prevT t (i+1)) l:=by
 subst hi
 rw [checkT.eq_def];simp [h,hb,prevT,hx]
theorem checkT_twice {t l:List Ent} {k i:Nat} {p q:ByteArray} {b c:Nat} (hk:k+1=i) (hy:t[k]? = some (q,c)) (h:¬ 255<p.size) (hb:b≠0) (he:p=q):checkT (prevT t i) ((p,b) :: l)=11:=by
 subst hk
 rw [checkT.eq_def];simp [h,hb,prevT,hy,he]
 rw [←he];omega
theorem checkT_order {t l:List Ent} {k i:Nat} {p q:ByteArray} {b c:Nat} (hk:k+1=i) (hy:t[k]? = some (q,c)) (h:¬ 255<p.size) (hb:b≠0) (he:p≠q) (hl:ltB p q=true):checkT (prevT t i) ((p,b) :: l)=10:=by
 subst hk
 rw [checkT.eq_def];simp [h,hb,prevT,hy,he,hl]
theorem checkT_next {t l:List Ent} {k i:Nat} {p q:ByteArray} {b c:Nat} (hk:k+1=i) (hy:t[k]? = some (q,c)) (hx:t[i]? = some (p,b)) (h:¬ 255<p.size) (hb:b≠0) (he:p≠q) (hl:ltB p q=false):checkT (prevT t i) ((p,b) :: l)=checkT (prevT t (i+1)) l:=by
 subst hk
 rw [checkT.eq_def];simp [h,hb,prevT,hy,hx,he,hl]
set_option maxHeartbeats 4000000 in
theorem tcheck_any {S:Nat→Prop} {a:Option Addr} {cap:Nat} {t:List Ent} (w:World) (h:Ents w S a cap t) (hl:t.length≤1000000000):Calls Tryz.prog 144 #[.slice a t.length cap] w (CtPost w t):=by
 obtain ⟨D,hD⟩:∃ D,D=CtPost w t:=⟨_,rfl⟩
 have HD:Hid (D=CtPost w t):=hD
 rw [←hD]
 have H:Hid (Ents w S a cap t):=h
 obtain ⟨n,hn⟩:∃ n,n=t.length:=⟨_,rfl⟩
 have HN:Hid (n=t.length∧n≤1000000000):=hidS ⟨hn,by omega⟩
 have B0:Hid (CtRel w t n (.int .i64 0) w):=⟨0,rfl,by omega,rfl,Turned.refl _ _⟩
 rw [←hn]
 clear h hl hn hD
 go_enter Tryz.func144,Tryz.ntmps144
 go_wp2
 go_loopg [7] n (fun g v wr=>CtRel w t g v wr)
 case atStart=>exact B0.out
 case round=>
  obtain ⟨i,rfl,hig,hle,ht⟩:=hrel
  have G:Hid (i+gk=t.length∧checkT none t=checkT (prevT t i) (t.drop i)):=⟨hig,hle⟩
  have TT:Hid (Turned (fun _=>False) w wr):=ht
  clear hig hle B0 ht
  by_cases hlt:i<n
  ·obtain ⟨x, hx⟩ : ∃ x, t[i]? = some x := ⟨_, List.getElem?_eq_getElem (by have := HN.out.1; omega)⟩
   obtain ⟨g,off,rfl,-,hgl,c0,c1⟩:=ents_at (H.out.turned TT.out fun _ _ q=>q) i x hx
   have HX:Hid (t[i]? = some x):=hx
   have HB:Hid (x.2<4294967296):=H.out.2.2.1 x (List.mem_of_getElem? hx)
   obtain ⟨p,b⟩:=x
   have HLT:Hid (i<n):=hlt
   have HW:Hid (wrap64 ((i:Int)+1)=((i+1:Nat):Int)):=hidS (by have:=HLT.out;have:=HN.out.2;simp [wrap64];omega)
   have hd1:decide ((i:Int)<(n:Int))=true:=by simp;omega
   have hd2:decide (i<n)=true:=by simp;omega
   clear hx
   by_cases hs:255<p.size
   ·have e1 : decide ((255 : Int) < (p.size : Int)) = true := decide_eq_true (by omega)
    have e2:decide (255<p.size)=true:=decide_eq_true (by omega)
    have HS:Hid (255<p.size):=hs
    clear hs
    go_wp2
    rw [HD.out]
    exact ⟨by rw [G.out.2,drop_at HX.out,checkT_long HS.out];rfl,(TT.out.new _)⟩
   have e1:decide ((255:Int)<(p.size:Int))=false:=decide_eq_false (by omega)
   have e2:decide (255<p.size)=false:=decide_eq_false (by omega)
   have HS:Hid (¬ 255<p.size):=hs
   clear hs
   by_cases hb:b=0
   ·have e3 : ((b : Int) == 0) = true := by simp [hb]
    have HB0:Hid (b=0):=hb
    clear hb
    go_wp2
    rw [HD.out]
    exact ⟨by rw [G.out.2,drop_at HX.out,checkT_zero HS.out HB0.out];rfl,(TT.out.new _)⟩
   have e3:((b:Int) == 0)=false:=by simp;omega
   have HB0:Hid (b≠0):=hb
   clear hb
   by_cases hi:i=0
   ·have e4 : decide ((0 : Int) < (i : Int)) = false := decide_eq_false (by omega)
    have e5:decide (0<i)=false:=decide_eq_false (by omega)
    have HI:Hid (i=0):=hi
    clear hi
    go_wp2
    go_quiet (fail)
    go_wp2
    go_quiet (fail)
    go_wp2
    go_roundg (gk - 1)
    case measure=>have:=G.out;have:=HLT.out;have:=HN.out;omega
    case rel=>exact ⟨i+1,by rw [HW.out],by have:=G.out;have:=HLT.out;have:=HN.out;omega,by rw [G.out.2,drop_at HX.out];exact checkT_first HI.out HX.out HS.out HB0.out,by first|exact TT.out.new _|exact (TT.out.new _).drawN _|exact ((TT.out.new _).drawN _).drawN _⟩
   obtain ⟨k,hk⟩:∃ k,k+1=i:=⟨i - 1,by omega⟩
   have e4:decide ((0:Int)<(i:Int))=true:=decide_eq_true (by omega)
   have e5:decide (0<i)=true:=decide_eq_true (by omega)
   have e6:wrap64 ((i:Int) - 1)=(k:Int):=by have:=HN.out;simp [wrap64];omega
   have hkn:k<n:=by omega
   obtain ⟨y,hy⟩:∃ y,t[k]? = some y:=⟨_,List.getElem?_eq_getElem (by have:=HN.out.1;omega)⟩
   obtain ⟨g2,off2,hv,-,-,d0,d1⟩:=ents_at (H.out.turned TT.out fun _ _ q=>q) k y hy
   simp only [Option.some.injEq,Addr.mk.injEq,and_true]at hv
   obtain ⟨rfl,rfl⟩:=hv
   have HY:Hid (k+1=i∧t[k]? = some y):=⟨hk,hy⟩
   obtain ⟨q,qb⟩:=y
   clear hi hy hk
   by_cases hs:p=q
   ·have e7 : (p.toList == q.toList) = true := sb_eq hs
    have HE:Hid (p=q):=hs
    clear hs
    go_wp2
    go_quiet (fail)
    go_wp2
    rw [HD.out]
    exact ⟨by rw [G.out.2,drop_at HX.out,checkT_twice HY.out.1 HY.out.2 HS.out HB0.out HE.out];rfl,by first|exact TT.out.new _|exact (TT.out.new _).drawN _⟩
   have e7:(p.toList == q.toList)=false:=sb_ne hs
   have HE:Hid (p≠q):=hs
   clear hs
   cases hlt2:Op.bytesLess p.toList q.toList with
   |true=>
    have HL:Hid (ltB p q=true):=hlt2
    go_wp2
    go_quiet (fail)
    go_wp2
    go_quiet (fail)
    go_wp2
    rw [HD.out]
    exact ⟨by rw [G.out.2,drop_at HX.out,checkT_order HY.out.1 HY.out.2 HS.out HB0.out HE.out HL.out];rfl,by first|exact TT.out.new _|exact (TT.out.new _).drawN _|exact ((TT.out.new _).drawN _).drawN _⟩
   |false=>
    have HL:Hid (ltB p q=false):=hlt2
    go_wp2
    go_quiet (fail)
    go_wp2
    go_quiet (fail)
    go_wp2
    go_roundg (gk - 1)
    case measure=>have:=G.out;have:=HLT.out;have:=HN.out;omega
    case rel=>exact ⟨i+1,by rw [HW.out],by have:=G.out;have:=HLT.out;have:=HN.out;omega,by rw [G.out.2,drop_at HX.out];exact checkT_next HY.out.1 HY.out.2 HX.out HS.out HB0.out HE.out HL.out,by first|exact TT.out.new _|exact (TT.out.new _).drawN _|exact ((TT.out.new _).drawN _).drawN _⟩
  ·have hd1 : decide ((i : Int) < (n : Int)) = false := by simp; omega
   have hd2:decide (i<n)=false:=by simp;omega
   have HLT:Hid (n≤i):=hidS (by omega)
   clear hlt
   go_wp2
   rw [HD.out]
   exact ⟨by rw [G.out.2,List.drop_eq_nil_of_le (by have:=HN.out;have:=HLT.out;omega),checkT];rfl,TT.out⟩
theorem mod32 (x:Nat):x % 4294967296<4294967296:=Nat.mod_lt x (by decide)
theorem p32:(2:Nat) ^ 32=4294967296:=by decide
theorem xor32 (x y:Nat) (hx:x<4294967296) (hy:y<4294967296):x ^^^ y<4294967296:=by
 rw [←p32]at hx hy ⊢
 exact Nat.xor_lt_two_pow hx hy
theorem xs32 (y:Nat) (h:y<4294967296):y ^^^ (y >>> 16)<4294967296:=xor32 _ _ h (Nat.lt_of_le_of_lt (Nat.shiftRight_le _ 16) h)
theorem feedH_eq (h:Nat) (b:UInt8):feedH h b=(h ^^^ b.toNat) * 16777619 % 4294967296:=by unfold feedH;with_reducible rfl
theorem feedH_lt (h:Nat) (b:UInt8):feedH h b<4294967296:=by rw [feedH_eq];exact mod32 _
theorem mixH_eq (h:Nat):∃ z:Nat,mixH h=(z % 4294967296) ^^^ ((z % 4294967296) >>> 16):=by
 unfold mixH
 exact ⟨_,by with_reducible rfl⟩
theorem mixH_lt (h:Nat):mixH h<4294967296:=by
 obtain ⟨z,e⟩:=mixH_eq h
 rw [e]
 exact xs32 _ (mod32 z)
theorem foldH_lt (l:List UInt8):∀ (h:Nat),h<4294967296→l.foldl feedH h<4294967296:=by
 induction l with
 |nil=>intro h hh;exact hh
 |cons b l ih=>intro h hh;rw [List.foldl_cons];exact ih (feedH h b) (feedH_lt h b)
theorem mulm (x k m:Nat):((x:Nat):Int) * (k:Nat) % (m:Nat)=((x * k % m:Nat):Int):=by push_cast;rfl
theorem mul32 (x k:Nat):((x:Nat):Int) * (k:Nat) % 4294967296=((x * k % 4294967296:Nat):Int):=mulm x k 4294967296
theorem mix_parts (f:Nat) (hf:f<4294967296):∃ y z:Nat,y<4294967296∧z<4294967296∧bits .xor .u32 (f:Int) ((f:Int) / 65536)=((f ^^^ (f / 65536):Nat):Int)∧((f ^^^ (f / 65536):Nat):Int) * 2246822507 % 4294967296=(y:Int) ∧
  bits .xor .u32 (y:Int) ((y:Int) / 8192)=((y ^^^ (y / 8192):Nat):Int)∧((y ^^^ (y / 8192):Nat):Int) * 3266489909 % 4294967296=(z:Int)∧z<4294967296∧bits .xor .u32 (z:Int) ((z:Int) / 65536)=((mixH f:Nat):Int):=by
 have key:∀ (x n:Nat),x<4294967296→bits .xor .u32 (x:Int) ((x:Int) / (n:Nat))=((x ^^^ (x / n):Nat):Int):=fun x n hx=>by
  have:=u32_xor_nat x (x / n) hx (Nat.lt_of_le_of_lt (Nat.div_le_self x n) hx)
  rw [←this];push_cast;rfl
 obtain ⟨y,hy⟩:∃ y,y=(f ^^^ (f / 65536)) * 2246822507 % 4294967296:=⟨_,rfl⟩
 obtain ⟨z,hz⟩:∃ z,z=(y ^^^ (y / 8192)) * 3266489909 % 4294967296:=⟨_,rfl⟩
 have ly:y<4294967296:=by rw [hy];exact mod32 _
 have lz:z<4294967296:=by rw [hz];exact mod32 _
 refine ⟨y,z,ly,lz,key f 65536 hf,by rw [hy];exact mul32 _ _,key y 8192 ly,by rw [hz];exact mul32 _ _,lz,?_⟩
 have e:mixH f=z ^^^ (z / 65536):=by
  unfold mixH
  simp only [Nat.shiftRight_eq_div_pow]
  rw [hz,hy]
 rw [e]
 exact key z 65536 lz
theorem hashB_lt (seed:Nat) (path:ByteArray):hashB seed path<4294967296:=
 mixH_lt _
theorem foldH_next {s:List UInt8} {j:Nat} {b:UInt8} (h:Nat) (hb:s[j]? = some b):(s.take (j+1)).foldl feedH h=feedH ((s.take j).foldl feedH h) b:=by
 rw [List.take_add_one,hb,List.foldl_append,Option.toList_some,List.foldl_cons,List.foldl_nil]
theorem sbyteN (s:ByteArray) (j:Nat) (h:j<s.size):s.data.toList[j]? = some s[j]:=by
 rw [Array.getElem?_toList];exact Array.getElem?_eq_getElem h
theorem nums_get (s:ByteArray) (j:Nat) (h:j<s.size):(nums s)[j]? = some s[j].toNat:=by
 unfold nums;rw [List.getElem?_map,sbyteN s j h,Option.map_some]
def HashRel (w1:World) (h0:Nat) (s:ByteArray) (g:Nat) (x i:Value) (wr:World):Prop:=
 ∃ j:Nat,j+g=s.size∧i = .int .i64 (j:Nat)∧x = .int .u32 ((s.data.toList.take j).foldl feedH h0:Nat)∧wr=w1
set_option maxHeartbeats 1000000 in
theorem bhash_any (seed:Nat) (s:ByteArray) (w:World) (hsd:seed<4294967296) (hs:s.size≤1000000000) :
  Calls Tryz.prog 218 #[.int .u32 (seed:Nat),.string s] w fun e w'=>e = .returned (.int .u32 (hashB seed s:Nat))∧Turned (fun _=>False) w w':=by
 obtain ⟨cap,w1,hconv,ht,hlt,hcap,hcell,-,-⟩:=bytes_of w s
 have F:Hid (∀ j x,(nums s)[j]? = some x→w1.cell? ⟨w.heap.size,j,none⟩=some (.int .u8 (x:Nat))):=hcell
 have U:Hid (Turned (fun _=>False) w w1):=ht
 have W:Hid (s.size≤1000000000):=hs
 obtain ⟨h0,hh0⟩:∃ h0,h0=2166136261 ^^^ seed:=⟨_,rfl⟩
 have hh1:h0<4294967296:=by rw [hh0];exact xor32 _ _ (by decide) hsd
 have HX:bits .xor .u32 2166136261 (seed:Int)=(h0:Int):=by
  have:=u32_xor_nat 2166136261 seed (by decide) hsd
  rw [←hh0]at this
  exact this
 have HL:Hid (h0<4294967296):=hh1
 obtain ⟨r,hr⟩:∃ r,r=hashB seed s:=⟨_,rfl⟩
 have HR:Hid (r=mixH (s.data.toList.foldl feedH h0)):=hidS (by rw [hr,hh0];rfl)
 rw [←hr]
 have B0:Hid (HashRel w1 h0 s s.size (.int .i64 0) (.int .i64 0) w1→False):=hidS (fun h=>by obtain ⟨j,a,b,c,d⟩:=h;cases c)
 clear hcell ht hs hsd hh0 hh1 hr B0
 generalize w.heap.size=n at *
 go_enter Tryz.func218,Tryz.ntmps218
 go_wp2
 go_loopg [5,13] s.size (fun g x i wr=>HashRel w1 h0 s g x i wr)
 case atStart=>exact ⟨0,Nat.zero_add _,rfl,by rw [List.take_zero,List.foldl_nil],rfl⟩
 case round=>
  obtain ⟨j,hjg,rfl,rfl,rfl⟩:=hrel
  have G:Hid (j+gk=s.size):=hjg
  clear hjg
  by_cases hlt:j<s.size
  ·have hq := sbyteN s j hlt
   have hl:=F.out j s[j].toNat (by rw [nums_get s j hlt])
   have hf:=foldH_lt (s.data.toList.take j) h0 HL.out
   have N:Hid ((s.data.toList.take (j+1)).foldl feedH h0=feedH ((s.data.toList.take j).foldl feedH h0) s[j]):=foldH_next h0 hq
   have HW:Hid (wrap64 ((j:Int)+1)=((j+1:Nat):Int)):=hidS (by have:=W.out;have:=G.out;simp [wrap64];omega)
   clear hq
   generalize (s.data.toList.take j).foldl feedH h0=f at *
   have hb:s[j].toNat<4294967296:=by have:=s[j].toNat_lt;omega
   have hx:bits .xor .u32 (f:Int) (s[j].toNat:Int)=((f ^^^ s[j].toNat:Nat):Int):=u32_xor_nat f s[j].toNat hf hb
   have hm:((f ^^^ s[j].toNat:Nat):Int) * 16777619 % 4294967296=((feedH f s[j]:Nat):Int):=by rw [feedH_eq];exact mul32 _ _
   have HM:Hid (((f ^^^ s[j].toNat:Nat):Int) * 16777619 % 4294967296=((feedH f s[j]:Nat):Int)):=hm
   clear hm
   go_wp2
   go_roundg (gk - 1)
   case measure=>have:=G.out;omega
   case rel=>exact ⟨j+1,by have:=G.out;omega,by rw [HW.out],by rw [N.out,HM.out],rfl⟩
  ·have hj : j = s.size := by have := G.out; omega
   have HE:Hid (s.data.toList.take j=s.data.toList):=List.take_of_length_le (by rw [hj];exact Nat.le_of_eq rfl)
   rw [HE.out]
   have hf:=foldH_lt s.data.toList h0 HL.out
   have HR:=HR
   generalize s.data.toList.foldl feedH h0=f at *
   obtain ⟨y,z,a1,a2,b1,b2,b3,b4,b5,b6⟩:=mix_parts f hf
   rw [←HR.out]at b6
   clear HE HL hf G
   subst hj
   go_wp2
   go_ret
   exact ⟨rfl,U.out⟩
end Go.Proofs.YtofcogekgcgjhaaGreatDoor
