/- Packed. -/
import Derived.Test.YtofcogekgcgjhaaGreatDoorZzai
set_option linter.unusedVariables false
set_option linter.unusedSimpArgs false
set_option maxRecDepth 100000
namespace Go.Proofs.YtofcogekgcgjhaaGreatDoor
open Go.RowKit Go.Mine
theorem ba_ne (m:ByteArray) (bs:List UInt8) (h:m≠⟨bs.toArray⟩):(m.toList == bs)=false:=by
 rw [ByteArray.toList_eq]
 simp only [beq_eq_false_iff_ne,ne_eq]
 intro q
 exact h (by rw [←q])
theorem ba_ne2 (m k:ByteArray) (h:m≠k):(m.toList == k.toList)=false:=by
 rw [ByteArray.toList_eq,ByteArray.toList_eq]
 simp only [beq_eq_false_iff_ne,ne_eq]
 intro q
 exact h (ByteArray.ext (Array.toList_inj.1 q))
def openR (t m:ByteArray):Nat:=
 if t.size<10 then 2 else if t.extract 0 5≠m then 3 else if sealed (t.extract 0 (t.size - 4))≠t then 4 else 0
set_option maxHeartbeats 1000000 in
theorem opened_any (t m:ByteArray) (w:World) (hs:t.size≤4611686018427387904):Calls Tryz.prog 268 #[.string t,.string m] w fun e w'=>e = .returned (.int .i64 (openR t m:Nat))∧Turned (fun _=>False) w w':=by
 by_cases h2:t.size<10
 ·have hd3 : decide ((t.size : Int) < 10) = true := by simp; omega
  have hd4:decide (t.size<10)=true:=by simp;omega
  have HR:Hid (openR t m=2):=by
   have:openR t m=2:=by unfold openR;rw [if_pos h2]
   exact this
  rw [HR.out]
  clear hs h2
  go_enter Tryz.func268,Tryz.ntmps268
  go_wp2
  go_ret
  exact ⟨rfl,Turned.refl _ _⟩
 have hd3:decide ((t.size:Int)<10)=false:=by simp;omega
 have hd4:decide (t.size<10)=false:=by simp;omega
 have hw:wrap64 ((t.size:Int) - 4)=((t.size - 4:Nat):Int):=by simp [wrap64];omega
 have hsl1:∀ W,(Instr.slice 9 (.string t) none (some (.int .i64 5)) none).run Tryz.prog W = .ok (.string (t.extract 0 5)) W:=fun W=>by
  have:=run_slice_string_h (P:=Tryz.prog) W 9 t Tryz.underlying9 .i64 5 (by omega) (by omega)
  exact this
 by_cases h3:t.extract 0 5=m
 ·rw [h3] at hsl1
  have hsl3:∀ W,(Instr.slice 9 (.string t) none (some (.int .i64 (wrap64 ((t.size:Int) - 4)))) none).run Tryz.prog W = .ok (.string (t.extract 0 (t.size - 4))) W:=fun W=>by
   rw [hw]
   have:=run_slice_string_h (P:=Tryz.prog) W 9 t Tryz.underlying9 .i64 ((t.size - 4:Nat):Int) (by omega) (by omega)
   rw [Int.toNat_natCast]at this
   exact this
  have z3:(t.extract 0 (t.size - 4)).size≤4611686018427387904:=by rw [ByteArray.size_extract];omega
  have hse:=sealed_any (t.extract 0 (t.size - 4)) w z3
  by_cases h4:sealed (t.extract 0 (t.size - 4))=t
  ·have HR : Hid (openR t m = 0) := by
    have:openR t m=0:=by unfold openR;rw [if_neg h2,if_neg (by simp [h3]),if_neg (by simp [h4])]
    exact this
   rw [HR.out]
   rw [h4]at hse
   generalize t.extract 0 (t.size - 4)=s3 at *
   clear hs h2 h3 h4 hw z3
   go_enter Tryz.func268,Tryz.ntmps268
   go_wp2_with (go_at_call 280;(with_reducible refine hse.mono ?_);rintro e w1 ⟨rfl,ht1⟩)
   go_ret
   exact ⟨rfl,ht1⟩
  ·have HR : Hid (openR t m = 4) := by
    have:openR t m=4:=by unfold openR;rw [if_neg h2,if_neg (by simp [h3]),if_pos h4]
    exact this
   rw [HR.out]
   have hne:=ba_ne2 _ _ h4
   generalize sealed (t.extract 0 (t.size - 4))=s4 at *
   generalize t.extract 0 (t.size - 4)=s3 at *
   clear hs h2 h3 h4 hw z3
   go_enter Tryz.func268,Tryz.ntmps268
   go_wp2_with (go_at_call 280;(with_reducible refine hse.mono ?_);rintro e w1 ⟨rfl,ht1⟩)
   go_ret
   exact ⟨rfl,ht1⟩
 ·have HR : Hid (openR t m = 3) := by
   have:openR t m=3:=by unfold openR;rw [if_neg h2,if_pos h3]
   exact this
  rw [HR.out]
  have hne:=ba_ne2 _ _ h3
  generalize t.extract 0 5=s3 at *
  clear hs h2 h3 hw
  go_enter Tryz.func268,Tryz.ntmps268
  go_wp2
  go_ret
  exact ⟨rfl,Turned.refl _ _⟩
theorem snocInd {α:Type} {p:List α→Prop} (h0:p []) (h1:∀ l x,p l→p (l ++ [x])) (l:List α):p l:=by
 have:∀ l:List α,p l.reverse:=by
  intro l
  induction l with
  |nil=>exact h0
  |cons x l ih=>rw [List.reverse_cons];exact h1 _ _ ih
 have h:=this l.reverse
 rwa [List.reverse_reverse]at h
def tabK (s:ByteArray) (st:Nat×Nat):Nat→List (Nat×Nat)×(Nat×Nat)
 |0=>([],st)
 |k+1=>((tabK s st k).1 ++ [((rdNum s (tabK s st k).2 4).1,(rdNum s (rdNum s (tabK s st k).2 4).2 4).1)],(rdNum s (rdNum s (tabK s st k).2 4).2 4).2)
def datStep (s:ByteArray) (q:List Ch×(Nat×Nat)) (e:Nat×Nat):List Ch×(Nat×Nat):=(q.1 ++ [(e.1,(rdRaw s q.2 e.2).1)],(rdRaw s q.2 e.2).2)
def dat (s:ByteArray) (st:Nat×Nat) (t:List (Nat×Nat)):List Ch×(Nat×Nat):=t.foldl (datStep s) ([],st)
theorem dat_snoc (s:ByteArray) (st:Nat×Nat) (t:List (Nat×Nat)) (e:Nat×Nat):dat s st (t ++ [e])=datStep s (dat s st t) e:=by simp [dat]
theorem dat_take (s:ByteArray) (st:Nat×Nat) (t:List (Nat×Nat)) (j:Nat) (e:Nat×Nat) (h:t[j]? = some e):dat s st (t.take (j+1))=datStep s (dat s st (t.take j)) e:=by
 rw [List.take_add_one,h]
 exact dat_snoc s st _ e
theorem tabK_length (s:ByteArray) (st:Nat×Nat) (k:Nat):(tabK s st k).1.length=k:=by
 induction k with
 |zero=>rfl
 |succ k ih=>simp [tabK,ih]
theorem tabK_take (s:ByteArray) (st:Nat×Nat) (n k:Nat) (h:k≤n):(tabK s st n).1.take k=(tabK s st k).1:=by
 induction n with
 |zero=>
  obtain rfl:k=0:=by omega
  rfl
 |succ n ih=>
  rcases Nat.lt_or_ge n k with hk|hk
  ·obtain rfl : k = n + 1 := by omega
   exact List.take_of_length_le (by rw [tabK_length];exact Nat.le_refl _)
  ·rw [tabK, List.take_append_of_le_length (by rw [tabK_length]; exact hk)]
   exact ih hk
theorem rdNum_at (s:ByteArray) (st:Nat×Nat) (n:Nat) (h:st.1≤s.size):(rdNum s st n).2.1≤s.size:=rdRaw_at s st n h
theorem tabK_at (s:ByteArray) (st:Nat×Nat) (k:Nat) (h:st.1≤s.size):(tabK s st k).2.1≤s.size:=by
 induction k with
 |zero=>exact h
 |succ k ih=>exact rdNum_at _ _ _ (rdNum_at _ _ _ ih)
theorem tabK_lt (s:ByteArray) (st:Nat×Nat) (k:Nat):∀ e∈(tabK s st k).1,e.1<4294967296∧e.2<4294967296:=by
 induction k with
 |zero=>intro e h;simp [tabK]at h
 |succ k ih=>
  intro e h
  rw [tabK,List.mem_append]at h
  rcases h with h|h
  ·exact ih e h
  ·rw [List.mem_singleton] at h
   subst h
   exact ⟨rdNum_lt _ _ 4,rdNum_lt _ _ 4⟩
theorem dat_length (s:ByteArray) (st:Nat×Nat) (t:List (Nat×Nat)):(dat s st t).1.length=t.length:=by
 induction t using snocInd with
 |h0=>rfl
 |h1 t e ih=>rw [dat_snoc];simp [datStep,ih]
theorem dat_at (s:ByteArray) (st:Nat×Nat) (t:List (Nat×Nat)) (h:st.1≤s.size):(dat s st t).2.1≤s.size:=by
 induction t using snocInd with
 |h0=>exact h
 |h1 t e ih=>rw [dat_snoc];exact rdRaw_at _ _ _ ih
def chkStep (o:Option Nat) (e:Nat×Nat):Option Nat:=o.bind fun last=>if last<e.1 then some e.1 else none
def chk (t:List (Nat×Nat)):Option Nat:=t.foldl chkStep (some 0)
theorem chk_snoc (t:List (Nat×Nat)) (e:Nat×Nat):chk (t ++ [e])=chkStep (chk t) e:=by simp [chk]
theorem chk_none (t r:List (Nat×Nat)) (h:chk t=none):chk (t ++ r)=none:=by
 induction r using snocInd with
 |h0=>simpa using h
 |h1 r e ih=>rw [←List.append_assoc,chk_snoc,ih];rfl
def progT (s:ByteArray):Option (List Ch):=
 let c:=rdNum s (0,0) 1
 if 16<c.1 then none else
 let t:=tabK s c.2 c.1
 if chk t.1=none then none else
 let d:=dat s t.2 t.1
 if d.2.2≠0∨d.2.1<s.size then none else some d.1
def RrIs (w:World) (p:Nat) (s:ByteArray) (st:Nat×Nat):Prop:=
 Blk w p #[.string s,.int .i64 (st.1:Nat),.int .i64 (st.2:Nat)] 362
theorem RrIs.turned {w w' : World} {p:Nat} {s:ByteArray} {st:Nat×Nat} {S:Nat→Prop} (h:RrIs w p s st) (ht:Turned S w w') (hp:¬ S p):RrIs w' p s st:=Blk.turned h ht hp
end Go.Proofs.YtofcogekgcgjhaaGreatDoor
namespace Go.Mine.Ac
open Go.Mine
/-! ### Settings,hashes,places -/
structure Stg where
 h:Int
 p:Int
 m:Int
 seed:Nat
def goodStg (s:Stg):Prop:=1≤s.h∧s.h≤16∧1≤s.p∧s.p≤64∧0≤s.m∧s.m≤512
instance (s:Stg):Decidable (goodStg s):=by unfold goodStg;infer_instance
def feedH (h:Nat) (b:UInt8):Nat:=(h ^^^ b.toNat) * 16777619 % 4294967296
def mixH (h:Nat):Nat:=
 let h1:=(h ^^^ (h >>> 16)) * 2246822507 % 4294967296
 let h2:=(h1 ^^^ (h1 >>> 13)) * 3266489909 % 4294967296
 h2 ^^^ (h2 >>> 16)
def hashB (seed:Nat) (path:ByteArray):Nat:=mixH (path.data.toList.foldl feedH (2166136261 ^^^ seed))
def placeB (s:Stg) (path:ByteArray) (n i:Nat):Nat:=(hashB s.seed path+i * (hashB ((s.seed+1) % 4294967296) path ||| 1)) % 4294967296 % n
def placesB (s:Stg) (path:ByteArray) (n:Nat):List Nat:=if goodStg s∧1≤n∧n≤4294967295 then (List.range s.h.toNat).map (placeB s path n) else []
/-! ### Filters -/
def once:List ByteArray→List ByteArray
 | []=>[]
 |x :: l=>if l.any (fun y=>decide (y=x))=true then once l else x :: once l
def bitsB (n:Nat) (P:Nat→Bool):ByteArray:=⟨((List.range n).map fun j=>UInt8.ofNat ((List.range 8).foldl (fun v k=>if P (8 * j+k) then v+2 ^ k else v) 0)).toArray⟩
def manyB (s:Stg) (k:Nat):Nat:=max 1 ((k * s.p.toNat+7) / 8)
structure Flt where
 state:Int
 bits:ByteArray
def makeF (s:Stg) (paths:List ByteArray):Flt:=
 let u:=once paths
 if s.m.toNat<u.length then ⟨2,⟨#[]⟩⟩
 else ⟨1,bitsB (manyB s u.length) fun j=>u.any fun x=>decide (j∈placesB s x (8 * manyB s u.length))⟩
def diffP:List Ent→List Ent→List ByteArray
 | [],b=>b.map (·.1)
 |x :: a,[]=>(x :: a).map (·.1)
 |x :: a,y :: b=>
  if ltB x.1 y.1 then x.1 :: diffP a (y :: b)
  else if ltB y.1 x.1 then y.1 :: diffP (x :: a) b
  else if x.2=y.2 then diffP a b else x.1 :: diffP a b
termination_by a b=>a.length+b.length
def ofF (s:Stg) (old now:List Ent):Flt:=makeF s (diffP old now)
def bitOf (b:ByteArray) (j:Nat):Bool:=((b.data.toList[j / 8]?.getD 0).toNat >>> (j % 8)) % 2=1
def mayF (s:Stg) (f:Flt) (path:ByteArray):Bool:=f.state≠1 || (placesB s path (8 * f.bits.size)).all fun j=>bitOf f.bits j
/-! ### Generations -/
def counted (n:Int):Int:=if 1023<n then 1024 else max n 1
def nextG (l:List Int):Int:=
 let h:=l.foldl (fun h p=>max h (counted p)) 0
 if 1023≤h then h else h+1
end Go.Mine.Ac
namespace Go.Proofs.YtofcogekgcgjhaaGreatDoor.Ch
open Go.RowKit Go.Mine
theorem info43:(Tryz.prog.info? 120).map (fun i=>(i.zero,i.size,i.bytes))=some (some (.agg #[.int .i64 0,.int .i64 0,.int .u32 0]),3,24):=by kernel_rfl
def badLn (x:Ln):Bool:=!numb x.1 || decide (x.2.1<1) || decide (65536<x.2.1)
def chkLn:List Ln→List Ln→Nat
 |_,[]=>0
 |pre,x :: r=>if badLn x=true then 1 else if hasLn pre x.1=true then 11 else if 65536<totLn (pre ++ [x]) then 1 else chkLn (pre ++ [x]) r
def lnErr (l:List Ln):Nat:=if 8<l.length then 5 else chkLn [] l
theorem tot_bound (l:List Ln) (h:∀ x∈l,1≤x.2.1∧x.2.1≤65536):0≤totLn l∧totLn l≤65536 * l.length:=by
 induction l with
 |nil=>simp [totLn]
 |cons x l ih=>
  have h1:=h x (by simp)
  have h2:=ih fun y hy=>h y (List.mem_cons_of_mem _ hy)
  simp only [totLn,List.length_cons]
  omega
theorem lns_to {w:World} {a:Option Addr} {cap:Nat} {l:List Ln} (h:LnIs w a cap l) (j:Nat) (hj:j≤l.length) (W:World) :
  (Instr.slice 113 (.slice a l.length cap) none (some (.int .i64 j)) none).run Tryz.prog W = .ok (.slice a j cap) W:=by
 obtain ⟨i,hi,hz0,hz1,hz2⟩:=info_parts info43
 have hjc:j≤cap:=by have:=h.1;omega
 simp [Instr.slice,Instr.sliceBounds,Instr.sliceBound,asIntOf,run_underlying Tryz.underlying113,sizeOf,typeInfo,hi,hjc,Result.andThen]
 intro _
 cases a with
 |none=>rfl
 |some ad=>simp [Addr.add]
theorem LnIs.take {w:World} {a:Option Addr} {cap:Nat} {l:List Ln} (h:LnIs w a cap l) (j:Nat) (hj:j≤l.length):LnIs w a cap (l.take j):=by
 refine ⟨by have:=h.1;simp;omega,h.2.1,fun c hc=>h.2.2.1 c (List.mem_of_mem_take hc),fun h0=>?_⟩
 obtain ⟨b,off,h1,h2,h3⟩:=h.2.2.2 (by simp at h0;omega)
 refine ⟨b,off,h1,h2,fun i c hc=>h3 i c ?_⟩
 rw [List.getElem?_take]at hc
 split at hc
 ·exact hc
 ·simp at hc
def CkRel (w:World) (l:List Ln) (g:Nat) (i:Value) (wr:World):Prop:=
 ∃ j:Nat,j+g=l.length∧i = .int .i64 j∧chkLn [] l=chkLn (l.take j) (l.drop j)∧(∀ x∈l.take j,1≤x.2.1∧x.2.1≤65536)∧Turned (fun _=>False) w wr
set_option maxHeartbeats 4000000 in
theorem check_any (a:Option Addr) (cap:Nat) (l:List Ln) (w:World) (h:LnIs w a cap l) :
  Calls Tryz.prog 127 #[.slice a l.length cap] w fun e w'=>e = .returned (.int .i64 (lnErr l:Nat))∧Turned (fun _=>False) w w':=by
 have H:Hid (LnIs w a cap l):=h
 obtain ⟨L,hL⟩:∃ L,L=l.length:=⟨_,rfl⟩
 have HL:Hid (L=l.length):=hL
 by_cases h8:8<L
 ·have HE : Hid (lnErr l = 5) := by
   have:lnErr l=5:=by unfold lnErr;rw [if_pos (by omega)]
   exact this
  rw [←hL,HE.out]
  clear h hL
  go_enter Tryz.func127,Tryz.ntmps127
  go_wp2
  go_ret
  exact ⟨rfl,Turned.refl _ _⟩
 ·have HE : Hid (lnErr l = chkLn [] l) := by
   have:lnErr l=chkLn [] l:=by unfold lnErr;rw [if_neg (by omega)]
   exact this
  have H8:Hid (L≤8):=(by omega:L≤8)
  have HSL:Hid (∀ j W,j≤L→(Instr.slice 113 (.slice a L cap) none (some (.int .i64 (j:Nat))) none).run Tryz.prog W = .ok (.slice a j cap) W):=fun j W hj=>by
   have:=lns_to h j (by omega) W
   rw [←hL]at this
   exact this
  rw [←hL,HE.out]
  have HS:Hid (CkRel w l L (.int .i64 0) w):=⟨0,by omega,rfl,rfl,fun x hx=>by simp at hx,Turned.refl _ _⟩
  clear h hL
  go_enter Tryz.func127,Tryz.ntmps127
  go_wp2
  go_loopg [10] L (fun g i wr=>CkRel w l g i wr)
  case atStart=>exact HS.out
  case round=>
   obtain ⟨j,hjg,rfl,hck,hcn,ht⟩:=hrel
   have T:Hid (Turned (fun _=>False) w wr):=ht
   have G:Hid (j+gk=l.length):=hjg
   have CK:Hid (chkLn [] l=chkLn (l.take j) (l.drop j)):=hck
   have CN:Hid (∀ x∈l.take j,1≤x.2.1∧x.2.1≤65536):=hcn
   clear hjg hck hcn ht HS
   by_cases hlt:j<L
   ·obtain ⟨c, hc⟩ : ∃ c, l[j]? = some c := ⟨_, List.getElem?_eq_getElem (by rw [← HL.out]; exact hlt)⟩
    obtain ⟨b,off,rfl,hbw,c0,c1,c2⟩:=lnIs_any (H.out.turned T.out) j c hc
    have hj2:=(List.getElem?_eq_some_iff.1 hc).1
    have hcj:c=l[j]:=(List.getElem?_eq_some_iff.1 hc).2.symm
    have hdr:l.drop j=c :: l.drop (j+1):=by rw [List.drop_eq_getElem_cons hj2,hcj]
    have hckk:=CK.out
    rw [hdr,chkLn]at hckk
    have DR:Hid (l[j]? = some c∧c∈l):=⟨hc,List.mem_of_getElem? hc⟩
    have hs1:=HSL.out j (wr.alloc (.cells #[.int .i64 c.1,.int .i64 c.2.1,.int .u32 (c.2.2:Nat)] 120)) (by omega)
    have hnu:=fun W=>numbered_any c.1 W
    have hcon:Calls Tryz.prog 139 #[.slice (some ⟨b,off,none⟩) j cap,.func (.func 213) #[] #[pt wr.heap.size]] (wr.alloc (.cells #[.int .i64 c.1,.int .i64 c.2.1,.int .u32 (c.2.2:Nat)] 120)) fun e w'=>e = .returned (.bool (hasLn (l.take j) c.1))∧Turned (fun _=>False) (wr.alloc (.cells #[.int .i64 c.1,.int .i64 c.2.1,.int .u32 (c.2.2:Nat)] 120)) w':=by
     have:=lcontains_any (some ⟨b,off,none⟩) cap wr.heap.size (l.take j) c (wr.alloc (.cells #[.int .i64 c.1,.int .i64 c.2.1,.int .u32 (c.2.2:Nat)] 120)) (((H.out.take j (by have:=HL.out;omega)).turned T.out).turned (Turned.alloc _ _ _)) (cell_of (heap_alloc_last wr _) 0 _ rfl)
     rw [List.length_take,Nat.min_eq_left (by have:=HL.out;omega)]at this
     exact this
    clear hc hj2 hcj hdr
    have hcase:(numb c.1=false∧badLn c=true)∨(numb c.1=true∧decide (c.2.1<1)=true∧badLn c=true)∨(numb c.1=true∧decide (c.2.1<1)=false∧decide (65536<c.2.1)=true∧badLn c=true)∨(numb c.1=true∧decide (c.2.1<1)=false∧decide (65536<c.2.1)=false∧badLn c=false):=by
     unfold badLn
     cases numb c.1 <;> cases decide (c.2.1<1) <;> cases decide (65536<c.2.1) <;> simp
    rcases hcase with ⟨hn,hb⟩|⟨hn,hd1,hb⟩|⟨hn,hd1,hd2,hb⟩|⟨hn,hd1,hd2,hb⟩
    ·rw [if_pos hb] at hckk
     have HR:Hid (chkLn [] l=1):=hckk
     rw [hn]at hnu
     clear hckk hb hcon hs1
     go_wp2_with (go_at_call 212;(with_reducible refine (hnu _).mono ?_);rintro e w2 ⟨rfl,rfl⟩)
     go_ret
     exact ⟨by rw [HR.out];rfl,T.out.new _⟩
    ·rw [if_pos hb] at hckk
     have HR:Hid (chkLn [] l=1):=hckk
     rw [hn]at hnu
     clear hckk hb hcon hs1
     go_wp2_with (go_at_call 212;(with_reducible refine (hnu _).mono ?_);rintro e w2 ⟨rfl,rfl⟩)
     go_ret
     exact ⟨by rw [HR.out];rfl,T.out.new _⟩
    ·rw [if_pos hb] at hckk
     have HR:Hid (chkLn [] l=1):=hckk
     rw [hn]at hnu
     clear hckk hb hcon hs1
     go_wp2_with (go_at_call 212;(with_reducible refine (hnu _).mono ?_);rintro e w2 ⟨rfl,rfl⟩)
     go_ret
     exact ⟨by rw [HR.out];rfl,T.out.new _⟩
    ·rw [if_neg (by rw [hb]; simp)] at hckk
     rw [hn]at hnu
     have hcb:1≤c.2.1∧c.2.1≤65536:=by
      have h1:¬ c.2.1<1:=by simpa using hd1
      have h2:¬ 65536<c.2.1:=by simpa using hd2
      omega
     by_cases hh:hasLn (l.take j) c.1=true
     ·rw [if_pos hh] at hckk
      have HR:Hid (chkLn [] l=11):=hckk
      rw [hh]at hcon
      clear hckk hb hh hcb
      go_wp2_with (first
       |(go_at_call 212;(with_reducible refine (hnu _).mono ?_);rintro e w2 ⟨rfl,rfl⟩)
       |(go_at_call 139;(with_reducible refine hcon.mono ?_);rintro e w3 ⟨rfl,ht3⟩))
      go_ret
      exact ⟨by rw [HR.out];rfl,(T.out.new _).trans ht3 fun _ _ q=>q⟩
     ·have hh2 : hasLn (l.take j) c.1 = false := by simpa using hh
      rw [if_neg hh]at hckk
      rw [hh2]at hcon
      have htk:l.take (j+1)=l.take j ++ [c]:=by rw [List.take_add_one,DR.out.1];rfl
      have hcn2:∀ x∈l.take (j+1),1≤x.2.1∧x.2.1≤65536:=by
       intro x hx
       rw [htk]at hx
       rcases List.mem_append.1 hx with q|q
       ·exact CN.out x q
       ·rw [List.mem_singleton]at q;subst q;exact hcb
      have hlj:(l.take (j+1)).length=j+1:=by rw [List.length_take];have:=HL.out;omega
      have htot:=fun W (ht2:Turned (fun _=>False) w W)=>total_any (some ⟨b,off,none⟩) cap (l.take (j+1)) W ((H.out.take (j+1) (by have:=HL.out;omega)).turned ht2) (fun i=>by
       have:=tot_bound ((l.take (j+1)).take i) fun x hx=>hcn2 x (List.mem_of_mem_take hx)
       have h3:((l.take (j+1)).take i).length≤8:=by have:=H8.out;rw [List.length_take,hlj];omega
       unfold I64;omega) (by have:=H8.out;omega)
      rw [hlj]at htot
      have hs2:∀ W,(Instr.slice 113 (.slice (some ⟨b,off,none⟩) L cap) none (some (.int .i64 ((j:Int)+1))) none).run Tryz.prog W = .ok (.slice (some ⟨b,off,none⟩) (j+1) cap) W:=fun W=>HSL.out (j+1) W (by omega)
      rw [←htk]at hckk
      have HT:Hid (∀ W,Turned (fun _=>False) w W→Calls Tryz.prog 58 #[.slice (some ⟨b,off,none⟩) (j+1) cap] W fun e w'=>e = .returned (.int .i64 (totLn (l.take (j+1))))∧Turned (fun _=>False) W w'):=htot
      have CN2:Hid (∀ x∈l.take (j+1),1≤x.2.1∧x.2.1≤65536):=hcn2
      have HCK:Hid (chkLn [] l=if 65536<totLn (l.take (j+1)) then 1 else chkLn (l.take (j+1)) (l.drop (j+1))):=hckk
      clear htot hcn2 hlj htk hh hh2 hckk hb hcb
      generalize htt:totLn (l.take (j+1))=tt at HT HCK
      clear htt
      by_cases hbig:65536<tt
      ·have hd5 : decide (65536 < tt) = true := by simp; omega
       have HR:Hid (chkLn [] l=1):=by have:=HCK.out;rw [if_pos hbig]at this;exact this
       clear hbig HCK
       go_wp2_with (first
        |(go_at_call 212;(with_reducible refine (hnu _).mono ?_);rintro e w2 ⟨rfl,rfl⟩)
        |(go_at_call 139;(with_reducible refine hcon.mono ?_);rintro e w3 ⟨rfl,ht3⟩;have T3:Hid (Turned (fun _=>False) w w3):=(T.out.new _).trans ht3 (fun _ _ q=>q);have h35:=HT.out w3 T3.out;clear ht3)
        |(go_at_call 58;(with_reducible refine h35.mono ?_);rintro e w4 ⟨rfl,ht4⟩))
       go_ret
       exact ⟨by rw [HR.out];rfl,T3.out.trans ht4 fun _ _ q=>q⟩
      ·have hd5 : decide (65536 < tt) = false := by simp; omega
       have HR:Hid (chkLn [] l=chkLn (l.take (j+1)) (l.drop (j+1))):=by have:=HCK.out;rw [if_neg hbig]at this;exact this
       clear hbig HCK
       go_wp2_with (first
        |(go_at_call 212;(with_reducible refine (hnu _).mono ?_);rintro e w2 ⟨rfl,rfl⟩)
        |(go_at_call 139;(with_reducible refine hcon.mono ?_);rintro e w3 ⟨rfl,ht3⟩;have T3:Hid (Turned (fun _=>False) w w3):=(T.out.new _).trans ht3 (fun _ _ q=>q);have h35:=HT.out w3 T3.out;clear ht3)
        |(go_at_call 58;(with_reducible refine h35.mono ?_);rintro e w4 ⟨rfl,ht4⟩))
       go_roundg (gk - 1)
       case measure=>have:=G.out;have:=HL.out;omega
       case rel=>exact ⟨j+1,by have:=G.out;have:=HL.out;omega,by simp,HR.out,CN2.out,T3.out.trans ht4 fun _ _ q=>q⟩
   ·have hj : j = L := by have := G.out; have := HL.out; omega
    subst hj
    have HR:Hid (chkLn [] l=0):=by
     have:=CK.out
     rw [List.drop_of_length_le (by have:=HL.out;omega)]at this
     exact this
    go_wp2
    go_ret
    exact ⟨by rw [HR.out];rfl,T.out⟩
end Go.Proofs.YtofcogekgcgjhaaGreatDoor.Ch
namespace Go.Proofs.YtofcogekgcgjhaaGreatDoor
open Go.RowKit Go.Mine
theorem infoC5:(Tryz.prog.info? 5).map (fun i=>(i.zero,i.size,i.bytes))=some (some (.int .u8 0),1,1):=by kernel_rfl
set_option maxHeartbeats 1000000 in
theorem clone_bytes {a:Option Addr} {n cap:Nat} {xs:List Value} (w:World) (hsrc:∀ w',Turned (fun _=>False) w w'→Src Tryz.prog 1 83 (.slice a n cap) n xs w') (hnil:a=none→n=0) (hn:n≤1000000000) :
  Calls Tryz.prog 90 #[.slice a n cap] w fun e w'=>∃ v,e = .returned v∧Sl w' (fun b=>w.heap.size≤b) 5 1 v xs n∧Turned (fun _=>False) w w':=by
 cases a with
 |none=>
  obtain rfl:=hnil rfl
  have hl:=(hsrc w (Turned.refl _ _)).newsLen
  have hx:xs=[]:=List.eq_nil_of_length_eq_zero (by simpa using hl)
  subst hx
  have hq:∀ w',(binOp .eql 83 (.slice none 0 cap) (.slice none 0 0)).run Tryz.prog w' = .ok (.bool true) w':=fun w'=>Lib.run_eql_slice_nil w' 83 5 none 0 cap 0 0 Tryz.underlying83
  clear hsrc hnil hl hn
  go_enter Tryz.func90,Tryz.ntmps90
  go_wp2
  go_ret
  exact ⟨_,rfl,Sl.nil _ _ _ _,Turned.refl _ _⟩
 |some ad=>
  have A1:Hid (Src Tryz.prog 1 83 (.slice (some ad) n cap) n xs (w.alloc (.cells #[] 5))):=hsrc _ (Turned.alloc _ _ _)
  have hq:∀ w',(binOp .eql 83 (.slice (some ad) n cap) (.slice none 0 0)).run Tryz.prog w' = .ok (.bool false) w':=fun w'=>Lib.run_eql_slice_nil w' 83 5 (some ad) n cap 0 0 Tryz.underlying83
  have A0:Hid (Sl (w.alloc (.cells #[] 5)) (· = w.heap.size) 5 1 (.slice (some ⟨w.heap.size,0,none⟩) 0 0) [] 0):=
   ⟨rfl,.inr ⟨w.heap.size,0,0,#[],rfl,rfl,Go.Mine.heap_alloc_new w _,Nat.le_refl _,by simp [maxLen],by simp,by simp⟩⟩
  have h1:Hid (0+n≤maxLen):=(by simp only [maxLen];omega:0+n≤maxLen)
  have h2:Hid ((0+n) * 1≤140737488355328):=(by omega:(0+n) * 1≤140737488355328)
  clear hsrc hnil hn
  go_enter Tryz.func90,Tryz.ntmps90
  go_wp2_with (at_builtin;refine wpList_append rfl _ _ 83 83 rfl A0.out Tryz.underlying83 infoC5 rfl (by decide) rfl (.slice (some ad) n cap) rfl A1.out h1.out h2.out ?_;intro v' w1 hsl1 ht1;obtain ⟨a2,cap2,hv2,-,-⟩:=hsl1.value;subst hv2)
  go_ret
  refine ⟨_,rfl,?_,(Turned.alloc (fun _=>False) w (.cells #[] 5)).comp ht1 fun i hi q=>q.elim id fun q=>by omega⟩
  rw [List.nil_append]at hsl1
  have hz:(w.alloc (.cells #[] 5)).heap.size=w.heap.size+1:=by simp
  have:=hsl1.widen (T:=fun b=>w.heap.size≤b) fun b q=>q.elim (fun q=>by omega) fun q=>by omega
  rw [Nat.zero_add]at this
  simpa using this
theorem infoC3:(Tryz.prog.info? 3).map (fun i=>(i.zero,i.size,i.bytes))=some (some (.int .i64 0),1,8):=by kernel_rfl
set_option maxHeartbeats 1000000 in
theorem clone_ints {a:Option Addr} {n cap:Nat} {xs:List Value} (w:World) (hsrc:∀ w',Turned (fun _=>False) w w'→Src Tryz.prog 1 41 (.slice a n cap) n xs w') (hnil:a=none→n=0) (hn:n≤1000000000) :
  Calls Tryz.prog 65 #[.slice a n cap] w fun e w'=>∃ v,e = .returned v∧Sl w' (fun b=>w.heap.size≤b) 3 1 v xs n∧Turned (fun _=>False) w w':=by
 cases a with
 |none=>
  obtain rfl:=hnil rfl
  have hl:=(hsrc w (Turned.refl _ _)).newsLen
  have hx:xs=[]:=List.eq_nil_of_length_eq_zero (by simpa using hl)
  subst hx
  have hq:∀ w',(binOp .eql 41 (.slice none 0 cap) (.slice none 0 0)).run Tryz.prog w' = .ok (.bool true) w':=fun w'=>Lib.run_eql_slice_nil w' 41 3 none 0 cap 0 0 Tryz.underlying41
  clear hsrc hnil hl hn
  go_enter Tryz.func65,Tryz.ntmps65
  go_wp2
  go_ret
  exact ⟨_,rfl,Sl.nil _ _ _ _,Turned.refl _ _⟩
 |some ad=>
  have A1:Hid (Src Tryz.prog 1 41 (.slice (some ad) n cap) n xs (w.alloc (.cells #[] 3))):=hsrc _ (Turned.alloc _ _ _)
  have hq:∀ w',(binOp .eql 41 (.slice (some ad) n cap) (.slice none 0 0)).run Tryz.prog w' = .ok (.bool false) w':=fun w'=>Lib.run_eql_slice_nil w' 41 3 (some ad) n cap 0 0 Tryz.underlying41
  have A0:Hid (Sl (w.alloc (.cells #[] 3)) (· = w.heap.size) 3 1 (.slice (some ⟨w.heap.size,0,none⟩) 0 0) [] 0):=
   ⟨rfl,.inr ⟨w.heap.size,0,0,#[],rfl,rfl,Go.Mine.heap_alloc_new w _,Nat.le_refl _,by simp [maxLen],by simp,by simp⟩⟩
  have h1:Hid (0+n≤maxLen):=(by simp only [maxLen];omega:0+n≤maxLen)
  have h2:Hid ((0+n) * 8≤140737488355328):=(by omega:(0+n) * 8≤140737488355328)
  clear hsrc hnil hn
  go_enter Tryz.func65,Tryz.ntmps65
  go_wp2_with (at_builtin;refine wpList_append rfl _ _ 41 41 rfl A0.out Tryz.underlying41 infoC3 rfl (by decide) rfl (.slice (some ad) n cap) rfl A1.out h1.out h2.out ?_;intro v' w1 hsl1 ht1;obtain ⟨a2,cap2,hv2,-,-⟩:=hsl1.value;subst hv2)
  go_ret
  refine ⟨_,rfl,?_,(Turned.alloc (fun _=>False) w (.cells #[] 3)).comp ht1 fun i hi q=>q.elim id fun q=>by omega⟩
  rw [List.nil_append]at hsl1
  have hz:(w.alloc (.cells #[] 3)).heap.size=w.heap.size+1:=by simp
  have:=hsl1.widen (T:=fun b=>w.heap.size≤b) fun b q=>q.elim (fun q=>by omega) fun q=>by omega
  rw [Nat.zero_add]at this
  simpa using this
theorem infoC96:(Tryz.prog.info? 96).map (fun i=>(i.zero,i.size,i.bytes))=some (some (.agg #[.string ⟨#[]⟩,.int .u32 0]),2,24):=by kernel_rfl
set_option maxHeartbeats 1000000 in
theorem clone_ents {a:Option Addr} {n cap:Nat} {xs:List Value} (w:World) (hsrc:∀ w',Turned (fun _=>False) w w'→Src Tryz.prog 2 65 (.slice a n cap) n xs w') (hnil:a=none→n=0) (hn:n≤1000000000) :
  Calls Tryz.prog 69 #[.slice a n cap] w fun e w'=>∃ v,e = .returned v∧Sl w' (fun b=>w.heap.size≤b) 96 2 v xs n∧Turned (fun _=>False) w w':=by
 cases a with
 |none=>
  obtain rfl:=hnil rfl
  have hl:=(hsrc w (Turned.refl _ _)).newsLen
  have hx:xs=[]:=List.eq_nil_of_length_eq_zero (by simpa using hl)
  subst hx
  have hq:∀ w',(binOp .eql 65 (.slice none 0 cap) (.slice none 0 0)).run Tryz.prog w' = .ok (.bool true) w':=fun w'=>Lib.run_eql_slice_nil w' 65 96 none 0 cap 0 0 Tryz.underlying65
  clear hsrc hnil hl hn
  go_enter Tryz.func69,Tryz.ntmps69
  go_wp2
  go_ret
  exact ⟨_,rfl,Sl.nil _ _ _ _,Turned.refl _ _⟩
 |some ad=>
  have A1:Hid (Src Tryz.prog 2 65 (.slice (some ad) n cap) n xs (w.alloc (.cells #[] 96))):=hsrc _ (Turned.alloc _ _ _)
  have hq:∀ w',(binOp .eql 65 (.slice (some ad) n cap) (.slice none 0 0)).run Tryz.prog w' = .ok (.bool false) w':=fun w'=>Lib.run_eql_slice_nil w' 65 96 (some ad) n cap 0 0 Tryz.underlying65
  have A0:Hid (Sl (w.alloc (.cells #[] 96)) (· = w.heap.size) 96 2 (.slice (some ⟨w.heap.size,0,none⟩) 0 0) [] 0):=
   ⟨rfl,.inr ⟨w.heap.size,0,0,#[],rfl,rfl,Go.Mine.heap_alloc_new w _,Nat.le_refl _,by simp [maxLen],by simp,by simp⟩⟩
  have h1:Hid (0+n≤maxLen):=(by simp only [maxLen];omega:0+n≤maxLen)
  have h2:Hid ((0+n) * 24≤140737488355328):=(by omega:(0+n) * 24≤140737488355328)
  clear hsrc hnil hn
  go_enter Tryz.func69,Tryz.ntmps69
  go_wp2_with (at_builtin;refine wpList_append rfl _ _ 65 65 rfl A0.out Tryz.underlying65 infoC96 rfl (by decide) rfl (.slice (some ad) n cap) rfl A1.out h1.out h2.out ?_;intro v' w1 hsl1 ht1;obtain ⟨a2,cap2,hv2,-,-⟩:=hsl1.value;subst hv2)
  go_ret
  refine ⟨_,rfl,?_,(Turned.alloc (fun _=>False) w (.cells #[] 96)).comp ht1 fun i hi q=>q.elim id fun q=>by omega⟩
  rw [List.nil_append]at hsl1
  have hz:(w.alloc (.cells #[] 96)).heap.size=w.heap.size+1:=by simp
  have:=hsl1.widen (T:=fun b=>w.heap.size≤b) fun b q=>q.elim (fun q=>by omega) fun q=>by omega
  rw [Nat.zero_add]at this
  simpa using this
theorem infoC120:(Tryz.prog.info? 120).map (fun i=>(i.zero,i.size,i.bytes))=some (some (.agg #[.int .i64 0,.int .i64 0,.int .u32 0]),3,24):=by kernel_rfl
set_option maxHeartbeats 1000000 in
theorem clone_links {a:Option Addr} {n cap:Nat} {xs:List Value} (w:World) (hsrc:∀ w',Turned (fun _=>False) w w'→Src Tryz.prog 3 113 (.slice a n cap) n xs w') (hnil:a=none→n=0) (hn:n≤1000000000) :
  Calls Tryz.prog 134 #[.slice a n cap] w fun e w'=>∃ v,e = .returned v∧Sl w' (fun b=>w.heap.size≤b) 120 3 v xs n∧Turned (fun _=>False) w w':=by
 cases a with
 |none=>
  obtain rfl:=hnil rfl
  have hl:=(hsrc w (Turned.refl _ _)).newsLen
  have hx:xs=[]:=List.eq_nil_of_length_eq_zero (by simpa using hl)
  subst hx
  have hq:∀ w',(binOp .eql 113 (.slice none 0 cap) (.slice none 0 0)).run Tryz.prog w' = .ok (.bool true) w':=fun w'=>Lib.run_eql_slice_nil w' 113 120 none 0 cap 0 0 Tryz.underlying113
  clear hsrc hnil hl hn
  go_enter Tryz.func134,Tryz.ntmps134
  go_wp2
  go_ret
  exact ⟨_,rfl,Sl.nil _ _ _ _,Turned.refl _ _⟩
 |some ad=>
  have A1:Hid (Src Tryz.prog 3 113 (.slice (some ad) n cap) n xs (w.alloc (.cells #[] 120))):=hsrc _ (Turned.alloc _ _ _)
  have hq:∀ w',(binOp .eql 113 (.slice (some ad) n cap) (.slice none 0 0)).run Tryz.prog w' = .ok (.bool false) w':=fun w'=>Lib.run_eql_slice_nil w' 113 120 (some ad) n cap 0 0 Tryz.underlying113
  have A0:Hid (Sl (w.alloc (.cells #[] 120)) (· = w.heap.size) 120 3 (.slice (some ⟨w.heap.size,0,none⟩) 0 0) [] 0):=
   ⟨rfl,.inr ⟨w.heap.size,0,0,#[],rfl,rfl,Go.Mine.heap_alloc_new w _,Nat.le_refl _,by simp [maxLen],by simp,by simp⟩⟩
  have h1:Hid (0+n≤maxLen):=(by simp only [maxLen];omega:0+n≤maxLen)
  have h2:Hid ((0+n) * 24≤140737488355328):=(by omega:(0+n) * 24≤140737488355328)
  clear hsrc hnil hn
  go_enter Tryz.func134,Tryz.ntmps134
  go_wp2_with (at_builtin;refine wpList_append rfl _ _ 113 113 rfl A0.out Tryz.underlying113 infoC120 rfl (by decide) rfl (.slice (some ad) n cap) rfl A1.out h1.out h2.out ?_;intro v' w1 hsl1 ht1;obtain ⟨a2,cap2,hv2,-,-⟩:=hsl1.value;subst hv2)
  go_ret
  refine ⟨_,rfl,?_,(Turned.alloc (fun _=>False) w (.cells #[] 120)).comp ht1 fun i hi q=>q.elim id fun q=>by omega⟩
  rw [List.nil_append]at hsl1
  have hz:(w.alloc (.cells #[] 120)).heap.size=w.heap.size+1:=by simp
  have:=hsl1.widen (T:=fun b=>w.heap.size≤b) fun b q=>q.elim (fun q=>by omega) fun q=>by omega
  rw [Nat.zero_add]at this
  simpa using this
theorem infoC123:(Tryz.prog.info? 123).map (fun i=>(i.zero,i.size,i.bytes))=some (some (.agg #[.int .i64 0,.int .i64 0,.int .i64 0,.int .i64 0,.int .u32 0,.slice none 0 0]),6,64):=by kernel_rfl
set_option maxHeartbeats 1000000 in
theorem clone_graphs {a:Option Addr} {n cap:Nat} {xs:List Value} (w:World) (hsrc:∀ w',Turned (fun _=>False) w w'→Src Tryz.prog 6 114 (.slice a n cap) n xs w') (hnil:a=none→n=0) (hn:n≤1000000000) :
  Calls Tryz.prog 137 #[.slice a n cap] w fun e w'=>∃ v,e = .returned v∧Sl w' (fun b=>w.heap.size≤b) 123 6 v xs n∧Turned (fun _=>False) w w':=by
 cases a with
 |none=>
  obtain rfl:=hnil rfl
  have hl:=(hsrc w (Turned.refl _ _)).newsLen
  have hx:xs=[]:=List.eq_nil_of_length_eq_zero (by simpa using hl)
  subst hx
  have hq:∀ w',(binOp .eql 114 (.slice none 0 cap) (.slice none 0 0)).run Tryz.prog w' = .ok (.bool true) w':=fun w'=>Lib.run_eql_slice_nil w' 114 123 none 0 cap 0 0 Tryz.underlying114
  clear hsrc hnil hl hn
  go_enter Tryz.func137,Tryz.ntmps137
  go_wp2
  go_ret
  exact ⟨_,rfl,Sl.nil _ _ _ _,Turned.refl _ _⟩
 |some ad=>
  have A1:Hid (Src Tryz.prog 6 114 (.slice (some ad) n cap) n xs (w.alloc (.cells #[] 123))):=hsrc _ (Turned.alloc _ _ _)
  have hq:∀ w',(binOp .eql 114 (.slice (some ad) n cap) (.slice none 0 0)).run Tryz.prog w' = .ok (.bool false) w':=fun w'=>Lib.run_eql_slice_nil w' 114 123 (some ad) n cap 0 0 Tryz.underlying114
  have A0:Hid (Sl (w.alloc (.cells #[] 123)) (· = w.heap.size) 123 6 (.slice (some ⟨w.heap.size,0,none⟩) 0 0) [] 0):=
   ⟨rfl,.inr ⟨w.heap.size,0,0,#[],rfl,rfl,Go.Mine.heap_alloc_new w _,Nat.le_refl _,by simp [maxLen],by simp,by simp⟩⟩
  have h1:Hid (0+n≤maxLen):=(by simp only [maxLen];omega:0+n≤maxLen)
  have h2:Hid ((0+n) * 64≤140737488355328):=(by omega:(0+n) * 64≤140737488355328)
  clear hsrc hnil hn
  go_enter Tryz.func137,Tryz.ntmps137
  go_wp2_with (at_builtin;refine wpList_append rfl _ _ 114 114 rfl A0.out Tryz.underlying114 infoC123 rfl (by decide) rfl (.slice (some ad) n cap) rfl A1.out h1.out h2.out ?_;intro v' w1 hsl1 ht1;obtain ⟨a2,cap2,hv2,-,-⟩:=hsl1.value;subst hv2)
  go_ret
  refine ⟨_,rfl,?_,(Turned.alloc (fun _=>False) w (.cells #[] 123)).comp ht1 fun i hi q=>q.elim id fun q=>by omega⟩
  rw [List.nil_append]at hsl1
  have hz:(w.alloc (.cells #[] 123)).heap.size=w.heap.size+1:=by simp
  have:=hsl1.widen (T:=fun b=>w.heap.size≤b) fun b q=>q.elim (fun q=>by omega) fun q=>by omega
  rw [Nat.zero_add]at this
  simpa using this
end Go.Proofs.YtofcogekgcgjhaaGreatDoor
