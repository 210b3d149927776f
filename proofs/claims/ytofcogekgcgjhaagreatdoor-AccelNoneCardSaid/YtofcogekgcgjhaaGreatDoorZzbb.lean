/- Packed. -/
import Derived.BigQuiet
import Derived.Lib.MinMax
import Derived.Deep.LoopGhost
import Derived.Test.YtofcogekgcgjhaaGreatDoorZzba
import Derived.Deep.Cut
set_option linter.unusedVariables false
set_option linter.unusedSimpArgs false
set_option maxRecDepth 100000
namespace Go.Proofs.YtofcogekgcgjhaaGreatDoor.Ch
open Go.RowKit Go.Mine
abbrev KInt:Value→Prop:=MapKept.IsKey (.int .i64)
theorem kk (k:Int):KInt (.int .i64 k):=rfl
theorem keyInt:KeyOk Tryz.prog 3 KInt:=plain_keyOk Tryz.underlying3
theorem wpList_look_as {P:Program} {w:World} {ops:Array Oper} {rest:List Oper} {o:Oper} {a:Act} {Q:Exit→Act→World→Prop} {K:Value→Prop} {b n:Nat} {m:Value→Option Value}
  (hg:o.guard=none) (mo xo:Operand) (t:TypeId) (hop:o.op=Op.lookup t mo xo false) (kt et:TypeId) (O:KeyOk P kt K) (ht:P.underlying t=some (.map kt et))
  (z:Value) (hz:(zeroValue et).run P w = .ok z w) (h:MapIs K w b m n) (hm:a.eval mo = .map (some b)) (x:Value) (hx:a.eval xo=x) (hk:K x) (r:Value) (hr:(m x).getD z=r)
  (hK:wpList P ops Q rest (a.put o.dst r) w):wpList P ops Q (o :: rest) a w:=
 wpList_look hg mo xo t hop kt et O ht z hz h hm x hx hk (by rw [hr];exact hK)
def nxt (l:List Ln):Int:=l.foldl (fun n x=>max n (x.1+1)) 0
theorem nxt_snoc (l:List Ln) (x:Ln):nxt (l ++ [x])=max (nxt l) (x.1+1):=by unfold nxt;rw [List.foldl_append];rfl
def Low (l:List Ln):Prop:=∀ x∈l,0≤x.1∧x.1<1073741824
theorem nxt_bound (l:List Ln) (h:Low l):0≤nxt l∧nxt l≤1073741824:=by
 have:∀ (l:List Ln),Low l→∀ n,0≤n∧n≤1073741824→0≤l.foldl (fun n x=>max n (x.1+1)) n∧l.foldl (fun n x=>max n (x.1+1)) n≤1073741824:=by
  intro l
  induction l with
  |nil=>intro _ n h;exact h
  |cons x l ih=>
   intro hl n hn
   rw [List.foldl_cons]
   refine ih (fun y hy=>hl y (List.mem_cons_of_mem _ hy)) _ ?_
   have:=hl x (by simp)
   omega
 exact this l h 0 (by omega)
def NxtRel (w:World) (bm:Nat) (l:List Ln) (g:Nat) (n i:Value) (wr:World):Prop:=
 ∃ (j:Nat) (m:Value→Option Value) (u:Nat),j+g=l.length∧i = .int .i64 j∧n = .int .i64 (nxt (l.take j))∧MapIs KInt wr bm m u∧(∀ x v,m x=some v→∃ c,v = .int .i64 c)∧Turned (fun _=>False) w wr
set_option maxHeartbeats 2000000 in
theorem next_any (a:Option Addr) (cap:Nat) (l:List Ln) (w:World) (h:LnIs w a cap l) (hl:l.length≤100000) (ho:Low l) :
  Calls Tryz.prog 133 #[.slice a l.length cap] w fun e w'=>e = .returned (.int .i64 (nxt l))∧Turned (fun _=>False) w w':=by
 have H:Hid (LnIs w a cap l):=h
 have LO:Hid (Low l):=ho
 obtain ⟨L,hL⟩:∃ L,L=l.length:=⟨_,rfl⟩
 have HL:Hid (L=l.length∧L≤100000):=⟨hL,by omega⟩
 rw [←hL]
 clear h hL hl ho
 have hmm:=@run_makeMap Tryz.prog
 go_enter Tryz.func133,Tryz.ntmps133
 go_wp2
 have BM:Hid (MapIs KInt (w.alloc (.map #[] 0)) w.heap.size (fun _=>none) 0):=MapIs.made _ _
 have ST:Hid (NxtRel w w.heap.size l L (.int .i64 0) (.int .i64 0) (w.alloc (.map #[] 0))):=⟨0,_,_,by have:=HL.out.1;omega,rfl,rfl,BM.out,by simp,Turned.alloc _ _ _⟩
 go_loopg [4,10] L (fun g n i wr=>NxtRel w w.heap.size l g n i wr)
 case atStart=>exact ST.out
 case round=>
  clear ST BM
  obtain ⟨j,m,u,hjg,rfl,rfl,hmap,hmi,ht⟩:=hrel
  have T:Hid (Turned (fun _=>False) w wr):=ht
  have G:Hid (j+gk=l.length):=hjg
  have MP:Hid (MapIs KInt wr w.heap.size m u):=hmap
  have HM:Hid (∀ x v,m x=some v→∃ c,v = .int .i64 c):=hmi
  clear ht hjg hmap hmi
  by_cases hlt:j<L
  ·obtain ⟨c, hc⟩ : ∃ c, l[j]? = some c := ⟨_, List.getElem?_eq_getElem (by rw [← HL.out.1]; exact hlt)⟩
   obtain ⟨b,off,rfl,hbw,c0,c1,c2⟩:=lnIs_any (H.out.turned T.out) j c hc
   have hlo:=LO.out c (List.mem_of_getElem? hc)
   have NX:Hid (nxt (l.take (j+1))=max (nxt (l.take j)) (c.1+1)):=by
    have:nxt (l.take (j+1))=max (nxt (l.take j)) (c.1+1):=by rw [List.take_add_one,hc];exact nxt_snoc _ _
    exact this
   have hnum:∀ W,Calls Tryz.prog 212 #[.int .i64 c.1] W fun e w'=>e = .returned (.bool true)∧W=w':=fun W=>by
    have:=numbered_any c.1 W
    rw [show numb c.1=true by unfold numb;simp;omega]at this
    exact this
   have hw1:wrap64 (c.1+1)=c.1+1:=by simp only [wrap64];omega
   obtain ⟨x1,x2,x3⟩:=c
   simp only at *
   obtain ⟨r,hr⟩:∃ r,(m (.int .i64 x1)).getD (.int .i64 0) = .int .i64 r:=by
    cases hx:m (.int .i64 x1) with
    |none=>exact ⟨0,rfl⟩
    |some v=>obtain ⟨c,rfl⟩:=HM.out _ _ hx;exact ⟨c,rfl⟩
   have MP2:Hid (∀ o,MapIs KInt (wr.alloc o) w.heap.size m u):=fun o=>MP.out.congr ((Turned.alloc (fun _=>False) wr o).block _ MP.out.lt fun q=>q) fun _=>rfl
   have hz:∀ W,(zeroValue 3).run Tryz.prog W = .ok (.int .i64 0) W:=fun W=>by kernel_rfl
   clear hc hlo
   generalize nxt (l.take j)=n at *
   go_wp2_with (first
    |(go_at_call 212;(with_reducible refine (hnum _).mono ?_);rintro e w5 ⟨rfl,rfl⟩)
    |(at_lookup;go_must (refine wpList_look_as rfl _ _ 286 rfl 3 3 keyInt Tryz.underlying286 (.int .i64 0) (hz _) (MP2.out _) rfl (.int .i64 x1) rfl (kk _) (.int .i64 r) hr ?_))
    |(at_mapUpdate;go_must (refine wpList_update rfl _ _ _ 286 rfl 3 3 keyInt Tryz.underlying286 (MP2.out _) rfl (.int .i64 x1) _ rfl rfl (kk _) ?_);intro w6 hmap6 ht6 hs6;have hc6:w6.cell? ⟨wr.heap.size,0,none⟩=some (.int .i64 x1):=(World.cell?_of_block (ht6.block wr.heap.size (by simp) fun q=>by have:=MP.out.lt;omega)).trans (cell_of (heap_alloc_last wr _) 0 _ rfl);have hl6:wr.heap.size<w6.heap.size:=(by rw [hs6];simp);have U6:Hid (MapIs KInt w6 w.heap.size _ _∧Turned (· = w.heap.size) _ w6):=⟨hmap6,ht6⟩;clear hmap6 ht6 hs6))
   go_roundg (gk - 1)
   case measure=>have:=G.out;have:=HL.out;omega
   case rel=>
    refine ⟨j+1,_,_,by have:=G.out;have:=HL.out;omega,by have:=HL.out;simp [wrap64];omega,by rw [NX.out],U6.out.1,?_,((T.out.new _).comp U6.out.2 fun i hi q=>?_)⟩
    ·intro x v hx
     split at hx
     ·exact ⟨_,(Option.some.inj hx).symm⟩
     ·exact HM.out x v hx
    ·rcases q with q | q
     ·exact q
     ·omega
  ·have hj : j = L := by have := G.out; have := HL.out; omega
   subst hj
   have HE:Hid (l.take j=l):=List.take_of_length_le (by have:=HL.out.1;omega)
   have hlo:=nxt_bound l LO.out
   have hnum:∀ W,Calls Tryz.prog 212 #[.int .i64 (nxt l)] W fun e w'=>e = .returned (.bool true)∧W=w':=fun W=>by
    have:=numbered_any (nxt l) W
    rw [show numb (nxt l)=true by unfold numb;simp;omega]at this
    exact this
   rw [HE.out]
   clear hlo
   obtain ⟨n,hn⟩:∃ n,n=nxt l:=⟨_,rfl⟩
   rw [←hn]at hnum ⊢
   have HN:Hid (n=nxt l):=hn
   clear hn
   go_wp2_with (go_at_call 212;(with_reducible refine (hnum _).mono ?_);rintro e w5 ⟨rfl,rfl⟩)
   go_ret
   exact ⟨by rw [←HN.out];rfl,T.out⟩
theorem x140_any (x:Ln) (k:Int) (p:Nat) (w:World) (hx:w.cell? ⟨p,0,none⟩=some (.int .i64 k)) :
  Calls Tryz.prog 140 #[lnv x,pt p] w fun e w'=>e = .returned (.bool (x.1 == k))∧Turned (fun _=>False) w w':=by
 have hlt:=lt_of_cell hx
 go_enter Tryz.func140,Tryz.ntmps140
 go_wp2
 go_ret
 exact ⟨by rfl,Turned.alloc _ _ _⟩
set_option maxHeartbeats 1000000 in
theorem xindex_any (a:Option Addr) (cap p:Nat) (l:List Ln) (k:Int) (w:World) (h:LnIs w a cap l) (hx:w.cell? ⟨p,0,none⟩=some (.int .i64 k)) :
  Calls Tryz.prog 230 #[.slice a l.length cap,.func (.func 140) #[] #[pt p]] w (LIdxPost w l k):=by
 have H:Hid (LnIs w a cap l):=h
 have HX:Hid (w.cell? ⟨p,0,none⟩=some (.int .i64 k)):=hx
 obtain ⟨L,hL⟩:∃ L,L=l.length:=⟨_,rfl⟩
 have HL:Hid (L=l.length):=hL
 rw [←hL]
 have hcap:Hid (L≤9223372036854775807):=(by rw [hL];have:=h.1;have:=h.2.1;simp only [maxLen]at this;omega:L≤9223372036854775807)
 clear h hL hx
 go_enter Tryz.func230,Tryz.ntmps230
 go_wp2
 have HS:Hid (LIdxRel w l k L (.int .i64 0) w):=⟨0,by rw [HL.out,Nat.zero_add],rfl,fun t _ ht=>by omega,Turned.refl _ _⟩
 go_loopg [8] L (fun g i wr=>LIdxRel w l k g i wr)
 case atStart=>exact HS.out
 case round=>
  obtain ⟨j,hjg,rfl,hno,ht⟩:=hrel
  have N:Hid (∀ t e,t<j→l[t]? = some e→e.1≠k):=hno
  have T:Hid (Turned (fun _=>False) w wr):=ht
  have G:Hid (j+gk=l.length):=hjg
  clear hno ht hjg HS
  by_cases hlt:j<L
  ·obtain ⟨c, hc⟩ : ∃ c, l[j]? = some c := ⟨_, List.getElem?_eq_getElem (by rw [← HL.out]; exact hlt)⟩
   obtain ⟨b,off,rfl,hbw,c0,c1,c2⟩:=lnIs_any (H.out.turned T.out) j c hc
   have hw:wrap64 ((j:Int)+1)=((j+1:Nat):Int):=by have:=hcap.out;simp [wrap64];omega
   have HW:Hid (wrap64 ((j:Int)+1)=((j+1:Nat):Int)):=hw
   have C:Hid (l[j]? = some c):=hc
   have hs:Calls Tryz.prog 140 #[lnv c,pt p] wr fun e w'=>e = .returned (.bool (c.1 == k))∧Turned (fun _=>False) wr w':=x140_any c k p wr (by rw [World.cell?_of_block (w':=wr) (T.out.block p (lt_of_cell HX.out) fun q=>q)];exact HX.out)
   clear hc hw
   by_cases hid:c.1=k
   ·rw [show (c.1 == k) = true by simp [hid]] at hs
    have HI:Hid (c.1=k):=hid
    clear hid
    go_wp2_with (go_at_call 140;(with_reducible refine hs.mono ?_);rintro e w2 ⟨rfl,ht2⟩)
    go_ret
    refine ⟨T.out.trans ht2 fun _ _ q=>q,.inr ⟨?_,j,rfl⟩⟩
    unfold hasLn
    rw [List.any_eq_true]
    exact ⟨c,List.mem_of_getElem? C.out,by simpa using HI.out⟩
   ·rw [show (c.1 == k) = false by simp [hid]] at hs
    have HI:Hid (c.1≠k):=hid
    clear hid
    go_wp2_with (go_at_call 140;(with_reducible refine hs.mono ?_);rintro e w2 ⟨rfl,ht2⟩)
    go_roundg (gk - 1)
    case measure=>have:=G.out;have:=HL.out;omega
    case rel=>
     refine ⟨j+1,by have:=G.out;have:=HL.out;omega,by rw [HW.out],fun t e ht hd=>?_,T.out.trans ht2 fun _ _ q=>q⟩
     rcases Nat.lt_or_eq_of_le (Nat.le_of_lt_succ ht) with q|q
     ·exact N.out t e q hd
     ·rw [q,C.out]at hd;obtain rfl:=Option.some.inj hd;exact HI.out
  ·go_wp2
   go_ret
   refine ⟨T.out,.inl ⟨?_,rfl⟩⟩
   unfold hasLn
   rw [List.any_eq_false]
   intro c hc
   obtain ⟨t,ht⟩:=List.getElem?_of_mem hc
   have:=(List.getElem?_eq_some_iff.1 ht).1
   simpa using N.out t c (by have:=HL.out;omega) ht
set_option maxHeartbeats 1000000 in
theorem xcontains_any (a:Option Addr) (cap p:Nat) (l:List Ln) (k:Int) (w:World) (h:LnIs w a cap l) (hx:w.cell? ⟨p,0,none⟩=some (.int .i64 k)) :
  Calls Tryz.prog 139 #[.slice a l.length cap,.func (.func 140) #[] #[pt p]] w fun e w'=>e = .returned (.bool (hasLn l k))∧Turned (fun _=>False) w w':=by
 have hi:=xindex_any a cap p l k w h hx
 clear h hx
 generalize hb:hasLn l k=b
 have B:Hid (hasLn l k=b):=hb
 clear hb
 go_enter Tryz.func139,Tryz.ntmps139
 go_wp2_with fail
 refine hi.mono ?_
 rintro e w1 ⟨ht,⟨h1,rfl⟩|⟨h1,j,rfl⟩⟩
 ·rw [B.out] at h1
  subst h1
  go_wp2
  go_ret
  exact ⟨rfl,ht⟩
 ·rw [B.out] at h1
  subst h1
  have hj:decide ((0:Int)≤(j:Int))=true:=by simp
  go_wp2
  go_ret
  exact ⟨rfl,ht⟩
end Go.Proofs.YtofcogekgcgjhaaGreatDoor.Ch
namespace Go.Proofs.YtofcogekgcgjhaaGreatDoor
open Go.RowKit Go.Mine Go.Mine.Ac
abbrev fltv (f:Flt):Value:=.agg #[.int .i64 f.state,.string f.bits]
def MyRel (V:World) (f:Flt) (pl:List Nat) (g:Nat) (iv:Value) (wr:World):Prop:=
 ∃ j:Nat,j+g=pl.length∧iv = .int .i64 (j:Nat)∧(∀ (t:Nat) x,t<j→pl[t]? = some x→bitOf f.bits x=true)∧Turned (fun _=>False) V wr
theorem bitOf_eq (bs:ByteArray) (x y r q t:Nat) (hyb:y<bs.size) (hy:y=x / 8) (hr:r=x % 8) (hq:q=bs[y].toNat / 2 ^ r) (ht:t=q % 2):bitOf bs x=decide (t=1):=by
 unfold bitOf
 rw [←hy,←hr,sbyteN bs y hyb,Option.getD_some,Nat.shiftRight_eq_div_pow,←hq,←ht]
set_option maxHeartbeats 1000000 in
theorem bmay_any (s:Stg) (f:Flt) (path:ByteArray) (w:World) (hsd:s.seed<4294967296) (hs:path.size≤1000000000) (hb:f.bits.size≤1000000000) :
  Calls Tryz.prog 60 #[stgv s,fltv f,.string path] w fun e w'=>e = .returned (.bool (mayF s f path))∧Turned (fun _=>False) w w':=by
 obtain ⟨Z,hZ⟩:∃ Z:Ending→World→Prop,Z=fun e w'=>e = .returned (.bool (mayF s f path))∧Turned (fun _=>False) w w':=⟨_,rfl⟩
 have HZ:Hid (Z=fun e w'=>e = .returned (.bool (mayF s f path))∧Turned (fun _=>False) w w'):=hZ
 rw [←hZ]
 obtain ⟨st,bs⟩:=f
 unfold fltv
 dsimp only at hb ⊢
 obtain ⟨V,hV⟩:∃ V,V=(w.alloc (.cells #[.int .i64 s.h,.int .i64 s.p,.int .i64 s.m,.int .u32 (s.seed:Nat)] 24)).alloc (.cells #[.int .i64 st,.string bs] 46):=⟨_,rfl⟩
 have HVV:Hid (V=(w.alloc (.cells #[.int .i64 s.h,.int .i64 s.p,.int .i64 s.m,.int .u32 (s.seed:Nat)] 24)).alloc (.cells #[.int .i64 st,.string bs] 46)):=hV
 obtain ⟨tV,xS,xV⟩:=two_boxes (w:=w) (.cells #[.int .i64 s.h,.int .i64 s.p,.int .i64 s.m,.int .u32 (s.seed:Nat)] 24) (.cells #[.int .i64 st,.string bs] 46)
 rw [←hV]at tV xS xV
 have TV:Hid (Turned (fun _=>False) w V):=tV
 have HBX:Hid (∀ W,Turned (fun _=>False) V W→W.cell? ⟨w.heap.size+1,0,none⟩=some (.int .i64 st)∧W.cell? ⟨w.heap.size+1,1,none⟩=some (.string bs)∧w.heap.size+1<W.heap.size∧W.cell? ⟨w.heap.size,0,none⟩=some (.int .i64 s.h)∧W.cell? ⟨w.heap.size,1,none⟩=some (.int .i64 s.p)∧W.cell? ⟨w.heap.size,2,none⟩=some (.int .i64 s.m)∧W.cell? ⟨w.heap.size,3,none⟩=some (.int .u32 (s.seed:Nat))∧w.heap.size<W.heap.size):=fun W q=>by
  have hb:=boxed xV q id
  have ha:=boxed xS q id
  exact ⟨cell_of hb 0 _ rfl,cell_of hb 1 _ rfl,lt_of_block hb,cell_of ha 0 _ rfl,cell_of ha 1 _ rfl,cell_of ha 2 _ rfl,cell_of ha 3 _ rfl,lt_of_block ha⟩
 obtain ⟨v0,v1,v2,v3,v4,v5,v6,v7⟩:=HBX.out V (Turned.refl _ _)
 by_cases h1:st=1
 ·subst h1
  have hpl:=bplaces_any s path (8 * bs.size) V hsd hs (by omega)
  unfold PcPost at hpl
  have hmay:mayF s ⟨1,bs⟩ path=(placesB s path (8 * bs.size)).all fun j=>bitOf bs j:=by unfold mayF;simp
  have hlt:∀ x∈placesB s path (8 * bs.size),x<8 * bs.size:=fun x hx=>by
   unfold placesB at hx
   split at hx
   ·rename_i q
    obtain ⟨i,-,rfl⟩:=List.mem_map.1 hx
    exact Nat.mod_lt _ (by omega)
   ·simp at hx
  have HM:Hid (mayF s ⟨1,bs⟩ path=(placesB s path (8 * bs.size)).all fun j=>bitOf bs j):=hmay
  have HLT:Hid (∀ x∈placesB s path (8 * bs.size),x<8 * bs.size):=hlt
  have HB:Hid (bs.size≤1000000000):=hb
  have hll:(placesB s path (8 * bs.size)).length≤16:=by
   unfold placesB
   split
   ·rename_i q;rw [List.length_map,List.length_range];have:=q.1.2.1;omega
   ·simp
  have HLL:Hid ((placesB s path (8 * bs.size)).length≤16):=hll
  generalize placesB s path (8 * bs.size)=pl at *
  obtain ⟨n,hn⟩:∃ n,n=8 * bs.size:=⟨_,rfl⟩
  have hw:wrap64 ((8:Int) * (bs.size:Int))=(n:Int):=by rw [hn];simp only [wrap64];omega
  rw [←hn]at hpl HLT
  have HN:Hid (n=8 * bs.size):=hn
  have HPL:Hid _:=hidS hpl
  clear hZ hV tV xS xV hsd hs hb hmay hlt hll hpl hn
  go_enter Tryz.func60,Tryz.ntmps60
  go_wp2_with fail
  rw [←HVV.out]
  go_wp2_with (go_at_call 130;(with_reducible refine HPL.out.mono ?_);rintro e w1 ⟨v,rfl,hsl,ht⟩;obtain ⟨k0,k1,k2,-⟩:=HBX.out w1 ht;obtain ⟨a,cap,rfl,-,-⟩:=hsl.value;have SL:Hid _:=hidS hsl;replace ht:Hid _:=hidS ht;clear hsl)
  obtain ⟨L,hL⟩:∃ L,L=(intsN pl).length:=⟨_,rfl⟩
  have HL:Hid (L=pl.length∧L=(intsN pl).length):=⟨by rw [hL];simp [intsN],hL⟩
  rw [←hL]
  clear hL
  go_loopg [20] L (fun g iv wr=>MyRel w1 ⟨1,bs⟩ pl g iv wr)
  case atStart=>exact ⟨0,by rw [HL.out.1,Nat.zero_add],rfl,fun t x ht=>by omega,Turned.refl _ _⟩
  case round=>
   obtain ⟨j,hjg,rfl,hall,hr⟩:=hrel
   have G:Hid (j+gk=pl.length):=hjg
   have HA:Hid (∀ (t:Nat) x,t<j→pl[t]? = some x→bitOf bs x=true):=hall
   have TT:Hid (Turned (fun _=>False) w1 wr):=hr
   obtain ⟨k0,k1,k2,-⟩:=HBX.out wr (ht.out.trans hr fun _ _ z=>z)
   clear hjg hall hr
   by_cases hlt:j<L
   ·obtain ⟨x, hx⟩ : ∃ x, pl[j]? = some x := ⟨_, List.getElem?_eq_getElem (by rw [← HL.out.1]; exact hlt)⟩
    have hxn:=HLT.out x (List.mem_of_getElem? hx)
    have HX:Hid (pl[j]? = some x):=hx
    obtain ⟨y,hy⟩:∃ y,y=x / 8:=⟨_,rfl⟩
    have hyb:y<bs.size:=by have:=HN.out;omega
    have hby:=sbyteN bs y hyb
    obtain ⟨b,hb⟩:∃ b,b=bs[y].toNat:=⟨_,rfl⟩
    obtain ⟨g,off,cap',hva,-,-,-,hcell,-,hgl⟩:=(SL.out.turned TT.out fun _ _ z=>z).opens (by rw [←HL.out.2];omega)
    simp only [Value.slice.injEq]at hva
    obtain ⟨rfl,-,-⟩:=hva
    have c0:wr.cell? ⟨g,off+j,none⟩=some (.int .i64 (x:Nat)):=by
     rw [hcell j (by rw [←HL.out.2];omega)]
     unfold intsN
     rw [List.getElem?_map,List.getElem?_map,hx];rfl
    have e1:(x:Int) / 8=(y:Int):=by rw [hy];omega
    obtain ⟨r,hr⟩:∃ r,r=x % 8:=⟨_,rfl⟩
    have e2:(x:Int) % 8=(r:Int):=by rw [hr];omega
    have HY:Hid (y=x / 8∧r=x % 8∧b=bs[y].toNat):=⟨hy,hr,hb⟩
    have hr8:r<8:=by omega
    obtain ⟨q,hq⟩:∃ q,q=bs[y].toNat / 2 ^ r:=⟨_,rfl⟩
    have hs2:((bs[y].toNat:Nat):Int) / 2 ^ r=(q:Int):=by rw [hq];push_cast;rfl
    have hq256:q<256:=by rw [hq];exact Nat.lt_of_le_of_lt (Nat.div_le_self _ _) bs[y].toNat_lt
    obtain ⟨t,ht2⟩:∃ t,t=q % 2:=⟨_,rfl⟩
    have hs3:bits .and .u8 (q:Int) 1=(t:Int):=by
     have:=u8_and_nat q 1 hq256 (by decide)
     rw [Nat.and_one_is_mod,←ht2]at this
     exact this
    have HQ:Hid (q=bs[y].toNat / 2 ^ r∧t=q % 2):=⟨hq,ht2⟩
    clear hby hq ht2
    have hwy:wrap64 (y:Int)=(y:Int):=by have:=HB.out;simp only [wrap64];omega
    clear hcell hy hr
    have HW:Hid (wrap64 ((j:Int)+1)=((j+1:Nat):Int)):=hidS (by have:=HLL.out;have:=HL.out.1;simp [wrap64];omega)
    clear hx hxn hb
    have E2:Hid ((x:Int) % 8=(r:Int)):=e2
    clear e2
    have HBT:Hid (bitOf bs x=decide (t=1)):=bitOf_eq bs x y r q t hyb HY.out.1 HY.out.2.1 HQ.out.1 HQ.out.2
    rcases (show t=0∨t=1 by have:=HQ.out.2;omega) with ht0|ht0
    ·rw [ht0] at hs3 HBT
     have hz:(((0:Nat):Int) == 0)=true:=rfl
     clear ht0
     go_upto_region 6 with (fail)
     iterate 18 go_step
     clear e1 hwy
     iterate 4 go_step
     rw [E2.out]
     go_wp2
     rw [HZ.out]
     refine ⟨?_,TV.out.trans (ht.out.trans TT.out fun _ _ z=>z) fun _ _ z=>z⟩
     rw [HM.out]
     have:(pl.all fun j=>bitOf bs j)=false:=by
      rw [List.all_eq_false]
      exact ⟨x,List.mem_of_getElem? HX.out,by rw [HBT.out];decide⟩
     rw [this]
     rfl
    ·rw [ht0] at hs3 HBT
     have hz:(((1:Nat):Int) == 0)=false:=rfl
     clear ht0
     go_upto_region 6 with (fail)
     iterate 18 go_step
     clear e1 hwy
     iterate 4 go_step
     rw [E2.out]
     go_wp2
     go_roundg (gk - 1)
     case measure=>have:=G.out;have:=HL.out.1;omega
     case rel=>
      refine ⟨j+1,by have:=G.out;have:=HL.out.1;omega,by rw [HW.out],fun t' x' h1 h2=>?_,TT.out⟩
      rcases Nat.lt_or_eq_of_le (Nat.le_of_lt_succ h1) with z|z
      ·exact HA.out t' x' z h2
      ·rw [z, HX.out] at h2
       obtain rfl:=Option.some.inj h2
       show bitOf bs x=true
       rw [HBT.out];decide
   ·have hj : j = L := by have := G.out; have := HL.out.1; omega
    have HJ:Hid (j=L):=hj
    have hd:decide (j<L)=false:=decide_eq_false hlt
    clear hj hlt
    go_wp2
    rw [HZ.out]
    refine ⟨?_,TV.out.trans (ht.out.trans TT.out fun _ _ z=>z) fun _ _ z=>z⟩
    rw [HM.out]
    have:(pl.all fun j=>bitOf bs j)=true:=by
     rw [List.all_eq_true]
     intro x hx
     obtain ⟨t',ht'⟩:=List.getElem?_of_mem hx
     have h1:=(List.getElem?_eq_some_iff.1 ht').1
     exact HA.out t' x (by rw [HJ.out,HL.out.1];exact h1) ht'
    rw [this]
    rfl
 ·have HM : Hid (mayF s ⟨st, bs⟩ path = true) := hidS (by unfold mayF; simp [h1])
  have e1:(st == 1)=false:=by simp [h1]
  have e2:(st != 1)=true:=by simp [h1]
  clear hZ hV tV xS xV hsd hs hb h1
  go_enter Tryz.func60,Tryz.ntmps60
  go_wp2_with fail
  rw [←HVV.out]
  go_wp2
  rw [HZ.out]
  exact ⟨by rw [HM.out];rfl,TV.out⟩
end Go.Proofs.YtofcogekgcgjhaaGreatDoor
