/- Packed. -/
import Derived.Test.YtofcogekgcgjhaaGreatDoorZzao
import Derived.Test.YtofcogekgcgjhaaGreatDoorZzam
import Derived.Lib.Hide
set_option linter.unusedVariables false
set_option linter.unusedSimpArgs false
set_option maxRecDepth 100000
namespace Go.Proofs.YtofcogekgcgjhaaGreatDoor
open Go.RowKit Go.Mine
def upd {α:Type} (f:Nat→α) (i:Nat) (x:α):Nat→α:=fun j=>if j=i then x else f j
theorem upd_same {α:Type} (f:Nat→α) (i:Nat) (x:α):upd f i x i=x:=by simp [upd]
theorem upd_other {α:Type} (f:Nat→α) (i:Nat) (x:α) (j:Nat) (h:j≠i):upd f i x j=f j:=by simp [upd,h]
def Wrs (w:World) (K:Nat→Prop) (n:Nat) (p:Nat→Nat) (f:Nat→List UInt8):Prop:=
 ∃ own:Nat→Nat,(∀ b,K b→n≤own b∧b<w.heap.size)∧∀ i,i<n→Wr w (fun b=>own b=i∧b<w.heap.size) (p i) (f i)
theorem Wrs.none (w:World) (K:Nat→Prop) (hK:∀ b,K b→b<w.heap.size) (p:Nat→Nat) (f:Nat→List UInt8):Wrs w K 0 p f:=
 ⟨fun _=>0,fun b q=>⟨Nat.zero_le _,hK b q⟩,fun i q=>by omega⟩
theorem Wrs.step {w:World} {K:Nat→Prop} {n:Nat} {p:Nat→Nat} {f:Nat→List UInt8} (h:Wrs w K n p f) (i:Nat) (hi:i<n) :
  ∃ S:Nat→Prop,Wr w S (p i) (f i)∧(∀ b,S b→¬ K b)∧∀ w' bs',Wr w' (More S w) (p i) bs'→Turned S w w'→Wrs w' K n p (upd f i bs')∧Turned (fun b=>¬ K b) w w':=by
 obtain ⟨own,hK,hw⟩:=h
 have hS:∀ b,own b=i∧b<w.heap.size→¬ K b:=fun b q k=>by have:=(hK b k).1;omega
 refine ⟨fun b=>own b=i∧b<w.heap.size,hw i hi,hS,fun w' bs' h1 ht=>⟨⟨fun b=>if b<w.heap.size then own b else i,fun b k=>?_,fun j hj=>?_⟩,ht.mono fun b _ q=>hS b q⟩⟩
 ·have hk := hK b k
  have:=ht.size
  simp only [if_pos hk.2]
  exact ⟨hk.1,by omega⟩
 ·by_cases hji : j = i
  ·subst hji
   rw [upd_same]
   refine (wr_bound h1).widen fun b ⟨q,hb⟩=>⟨?_,hb⟩
   by_cases hlt:b<w.heap.size
   ·simp only [if_pos hlt]
    rcases q with q|q
    ·exact q.1
    ·omega
   ·simp only [if_neg hlt]
  ·rw [upd_other _ _ _ _ hji]
   refine ((hw j hj).turned ht fun b q z=>hji (q.1.symm.trans z.1)).widen fun b q=>?_
   have:=ht.size
   simp only [if_pos q.2]
   exact ⟨q.1,by omega⟩
theorem Wrs.turned {w w' : World} {K:Nat→Prop} {n:Nat} {p:Nat→Nat} {f:Nat→List UInt8} (h:Wrs w K n p f) (ht:Turned (fun b=>K b) w w') :
  Wrs w' (fun b=>K b∨(w.heap.size≤b∧b<w'.heap.size)) n p f:=by
 obtain ⟨own,hK,hw⟩:=h
 refine ⟨fun b=>if b<w.heap.size then own b else n,fun b k=>?_,fun j hj=>?_⟩
 ·rcases k with k | k
  ·have hk := hK b k
   have:=ht.size
   simp only [if_pos hk.2]
   exact ⟨hk.1,by omega⟩
  ·simp only [if_neg (show ¬ b < w.heap.size by omega)]
   exact ⟨Nat.le_refl _,k.2⟩
 ·refine ((hw j hj).turned ht fun b q z => by have := (hK b z).1; omega).widen fun b q => ?_
  have:=ht.size
  simp only [if_pos q.2]
  exact ⟨q.1,by omega⟩
theorem Wrs.mono {w:World} {K K' : Nat→Prop} {n:Nat} {p:Nat→Nat} {f:Nat→List UInt8} (h:Wrs w K n p f) (hK:∀ b,K' b→K b):Wrs w K' n p f:=by
 obtain ⟨own,h1,h2⟩:=h
 exact ⟨own,fun b q=>h1 b (hK b q),h2⟩
theorem Wrs.congr {w:World} {K:Nat→Prop} {n:Nat} {p p' : Nat→Nat} {f f' : Nat→List UInt8} (h:Wrs w K n p f) (hp:∀ i,i<n→p' i=p i) (hf:∀ i,i<n→f' i=f i):Wrs w K n p' f':=by
 obtain ⟨own,h1,h2⟩:=h
 exact ⟨own,h1,fun i hi=>by rw [hp i hi,hf i hi];exact h2 i hi⟩
theorem newWriter_ws {w:World} {K:Nat→Prop} {n:Nat} {p:Nat→Nat} {f:Nat→List UInt8} (h:Wrs w K n p f) :
  Calls Tryz.prog 145 #[] w fun e w'=>e = .returned (pt w.heap.size)∧Wrs w' K (n+1) (upd p n w.heap.size) (upd f n [])∧Turned (fun _=>False) w w':=by
 refine (newWriter_any w).mono fun e w' ⟨he,hw,ht,hz⟩=>⟨he,?_,ht⟩
 obtain ⟨own,hK,hws⟩:=h
 refine ⟨fun b=>if b=w.heap.size then n else if own b<n then own b else n+1,fun b k=>?_,fun j hj=>?_⟩
 ·have hk := hK b k
  simp only [if_neg (show ¬ b=w.heap.size by omega),if_neg (show ¬ own b<n by omega)]
  exact ⟨Nat.le_refl _,by omega⟩
 ·by_cases hjn : j = n
  ·subst hjn
   rw [upd_same,upd_same]
   refine (wr_bound hw).widen fun b ⟨q,hb⟩=>⟨?_,hb⟩
   simp only [if_pos (show b=w.heap.size by omega)]
  ·rw [upd_other _ _ _ _ hjn, upd_other _ _ _ _ hjn]
   refine ((hws j (by omega)).turned ht fun b _ z=>z).widen fun b q=>?_
   simp only [if_neg (show ¬ b=w.heap.size by omega),if_pos (show own b<n by omega)]
   exact ⟨q.1,by omega⟩
theorem u16_any {S:Nat→Prop} {p:Nat} {bs:List UInt8} (v:Nat) (w:World) (h:Wr w S p bs) (hv:v<65536) (hL:bs.length+2≤1099511627776) :
  Calls Tryz.prog 146 #[pt p,.int .u16 v] w fun e w'=>e = .returned (.tuple #[])∧Wr w' (More S w) p (bs ++ num v 2)∧Turned S w w':=by
 have hf:Calls Tryz.prog 234 #[pt p,.int .u64 v,.int .i64 2] w fun e w'=>e = .returned (.tuple #[])∧Wr w' (More S w) p (bs ++ num v 2)∧Turned S w w':=fixed_any v 2 w h (by omega) (by omega) hL
 have hm:((v:Int) % 18446744073709551616)=v:=by omega
 clear h hv hL
 go_enter Tryz.func146,Tryz.ntmps146
 go_wp2_with (go_at_call 234;(with_reducible refine hf.mono ?_);rintro e w2 ⟨rfl,hw,ht⟩)
 go_end0
 exact ⟨rfl,hw,ht⟩
theorem len_any {S:Nat→Prop} {p:Nat} {bs:List UInt8} (w:World) (h:Wr w S p bs) :
  Calls Tryz.prog 221 #[pt p] w fun e w'=>e = .returned (.int .i64 (bs.length:Nat))∧w=w':=by
 obtain ⟨hp,v,R,hb,hsl,hpR,hR⟩:=h
 have hc:=cell_of hb 0 _ rfl
 have hlt:=lt_of_block hb
 obtain ⟨a,cap,rfl,h1,h2⟩:=hsl.value
 clear hp hpR hR hb hsl h1 h2
 go_enter Tryz.func221,Tryz.ntmps221
 go_wp2
 go_ret
 exact ⟨rfl,rfl⟩
section
variable {w:World} {K:Nat→Prop} {n:Nat} {p:Nat→Nat} {f:Nat→List UInt8}
theorem u8_ws (h:Wrs w K n p f) (i v:Nat) (hi:i<n) (hv:v<256) (hL:(f i).length+1≤1099511627776) :
  Calls Tryz.prog 148 #[pt (p i),.int .u8 v] w fun e w'=>e = .returned (.tuple #[])∧Wrs w' K n p (upd f i (f i ++ num v 1))∧Turned (fun b=>¬ K b) w w':=by
 obtain ⟨S,h1,h2,h3⟩:=h.step i hi
 exact (u8_any v w h1 hv hL).mono fun e w' ⟨he,hw,ht⟩=>⟨he,h3 w' _ hw ht⟩
theorem u16_ws (h:Wrs w K n p f) (i v:Nat) (hi:i<n) (hv:v<65536) (hL:(f i).length+2≤1099511627776) :
  Calls Tryz.prog 146 #[pt (p i),.int .u16 v] w fun e w'=>e = .returned (.tuple #[])∧Wrs w' K n p (upd f i (f i ++ num v 2))∧Turned (fun b=>¬ K b) w w':=by
 obtain ⟨S,h1,h2,h3⟩:=h.step i hi
 exact (u16_any v w h1 hv hL).mono fun e w' ⟨he,hw,ht⟩=>⟨he,h3 w' _ hw ht⟩
theorem u32_ws (h:Wrs w K n p f) (i v:Nat) (hi:i<n) (hv:v<4294967296) (hL:(f i).length+4≤1099511627776) :
  Calls Tryz.prog 150 #[pt (p i),.int .u32 v] w fun e w'=>e = .returned (.tuple #[])∧Wrs w' K n p (upd f i (f i ++ num v 4))∧Turned (fun b=>¬ K b) w w':=by
 obtain ⟨S,h1,h2,h3⟩:=h.step i hi
 exact (u32_any v w h1 hv hL).mono fun e w' ⟨he,hw,ht⟩=>⟨he,h3 w' _ hw ht⟩
theorem raw_ws (h:Wrs w K n p f) (i:Nat) (s:ByteArray) (hi:i<n) (hL:(f i).length+s.size≤1099511627776) :
  Calls Tryz.prog 149 #[pt (p i),.string s] w fun e w'=>e = .returned (.tuple #[])∧Wrs w' K n p (upd f i (f i ++ s.data.toList))∧Turned (fun b=>¬ K b) w w':=by
 obtain ⟨S,h1,h2,h3⟩:=h.step i hi
 exact (raw_any s w h1 hL).mono fun e w' ⟨he,hw,ht⟩=>⟨he,h3 w' _ hw ht⟩
theorem len_ws (h:Wrs w K n p f) (i:Nat) (hi:i<n):Calls Tryz.prog 221 #[pt (p i)] w fun e w'=>e = .returned (.int .i64 ((f i).length:Nat))∧w=w':=by
 obtain ⟨S,h1,-,-⟩:=h.step i hi
 exact len_any w h1
theorem bytes_ws (h:Wrs w K n p f) (i:Nat) (hi:i<n):Calls Tryz.prog 151 #[pt (p i)] w fun e w'=>e = .returned (.string ⟨(f i).toArray⟩)∧w=w':=by
 obtain ⟨S,h1,-,-⟩:=h.step i hi
 exact bytes_any w h1
end
end Go.Proofs.YtofcogekgcgjhaaGreatDoor
namespace Go.Proofs.YtofcogekgcgjhaaGreatDoor
open Go.RowKit Go.Mine
def firstN (r:Rw):Nat:=match r.par with
 | []=>4294967295
 |p :: _=>p.toNat
def secondN (r:Rw) (e:Nat):Nat:=if 2<r.par.length then 2147483648+e / 4 else if r.par.length=2 then (r.par[1]?.getD 0).toNat else 4294967295
def midB (l:List Int):List UInt8:=l.flatMap fun p=>num p.toNat 4
def edgeB (r:Rw):List UInt8:=if 2<r.par.length then midB ((r.par.drop 1).take (r.par.length - 2)) ++ num ((r.par[r.par.length - 1]?.getD 0).toNat+2147483648) 4 else []
def rowB (r:Rw) (e:Nat):List UInt8:=num r.tree.toNat 4 ++ num (firstN r) 4 ++ num (secondN r e) 4 ++ num r.gen.toNat 2 ++ num r.state.toNat 1
theorem rowB_length (r:Rw) (e:Nat):(rowB r e).length=15:=by simp [rowB,num_length]
theorem midB_length (l:List Int):(midB l).length=4 * l.length:=by
 induction l with
 |nil=>rfl
 |cons x l ih=>simp only [midB,List.flatMap_cons,List.length_append,num_length,List.length_cons]at ih ⊢;omega
theorem midB_snoc (l:List Int) (j:Nat) (x:Int) (h:l[j]? = some x):midB (l.take (j+1))=midB (l.take j) ++ num x.toNat 4:=by
 rw [List.take_add_one,h]
 simp [midB]
theorem edgeB_length (r:Rw):(edgeB r).length≤4 * r.par.length:=by
 unfold edgeB
 split
 ·simp only [List.length_append,midB_length,num_length,List.length_take,List.length_drop];omega
 ·simp
theorem goodF_state {s:Int} {b:ByteArray} (h:goodF s b=true):0≤s∧s≤2∧b.size≤4096:=by
 unfold goodF at h
 split at h
 ·simp only [decide_eq_true_eq]at h;omega
 ·split at h
  ·simp only [decide_eq_true_eq]at h;omega
  ·simp at h
theorem ints_cut (S:Nat→Prop) (a:Option Addr) (cap:Nat) (l:List Int) (hl:2<l.length) (w:World) (h:Ints w S a cap l) :
  ∃ a' cap',(∀ W,(Instr.slice 41 (.slice a l.length cap) (some (.int .i64 1)) (some (.int .i64 ((l.length - 1:Nat):Int))) none).run Tryz.prog W = .ok (.slice a' (l.length - 2) cap') W)∧∀ W,Ints W S a cap l→Ints W S a' cap' ((l.drop 1).take (l.length - 2)):=by
 obtain ⟨i,hi,hz0,hz1,hz2⟩:=info_parts info3i
 obtain ⟨h1,h2,h3,h4⟩:=h
 obtain ⟨g,off,rfl,-,-,-⟩:=h4 (by omega)
 have hcl:l.length - 1≤cap:=by omega
 have hone:1≤l.length - 1:=by omega
 have hne:¬ cap=1:=by omega
 refine ⟨some ⟨g,off+1,none⟩,cap - 1,fun W=>?_,fun W hW=>?_⟩
 ·have e2 : l.length - 1 - 1 = l.length - 2 := by omega
  have e3:l.length≤cap+1:=by omega
  have e4:(1:Int)≤((l.length - 1:Nat):Int):=by omega
  simp [Instr.slice,Instr.sliceBounds,Instr.sliceBound,asIntOf,run_underlying Tryz.underlying41,sizeOf,typeInfo,hi,hz1,hne,Result.andThen,Addr.add,e2,e3,e4]
 ·obtain ⟨-, -, -, k4⟩ := hW
  obtain ⟨g',off',hgg,hS,hlt,hc⟩:=k4 (by omega)
  injection hgg with hgg
  injection hgg with q1 q2
  subst q1
  subst q2
  have hlen:((l.drop 1).take (l.length - 2)).length=l.length - 2:=by simp;omega
  refine ⟨by omega,by omega,fun x hx=>h3 x (List.mem_of_mem_drop (List.mem_of_mem_take hx)),fun _=>⟨g,off+1,rfl,hS,hlt,fun j x hx=>?_⟩⟩
  rw [List.getElem?_take]at hx
  split at hx
  ·rw [List.getElem?_drop] at hx
   have:=hc (1+j) x hx
   rw [←Nat.add_assoc]at this
   exact this
  ·simp at hx
def MidRel (p:Nat→Nat) (f:Nat→List UInt8) (n:Nat) (m:List Int) (K:Nat→Prop) (w:World) (g:Nat) (i:Value) (wr:World):Prop:=
 ∃ j:Nat,j+g=m.length∧i = .int .i64 j∧Wrs wr K n p (upd f 2 (f 2 ++ midB (m.take j)))∧Turned (fun b=>¬ K b) w wr
theorem len_two {α:Type} {l:List α} (h:l.length=2):∃ x y,l=[x,y]:=by
 match l,h with
 | [x,y],_=>exact ⟨x,y,rfl⟩
theorem upd_upd {α:Type} (f:Nat→α) (i:Nat) (x y:α):upd (upd f i x) i y=upd f i y:=by funext j;unfold upd;split <;> rfl
theorem upd_self {α:Type} (f:Nat→α) (i:Nat):upd f i (f i)=f:=by funext j;unfold upd;split <;> simp_all
section
variable {w:World} {K:Nat→Prop} {n:Nat} {p:Nat→Nat} {f:Nat→List UInt8}
theorem u8_wu {bs:List UInt8} (i v:Nat) (h:Wrs w K n p (upd f i bs)) (hi:i<n) (hv:v<256) (hL:bs.length+1≤1099511627776) :
  Calls Tryz.prog 148 #[pt (p i),.int .u8 v] w fun e w'=>e = .returned (.tuple #[])∧Wrs w' K n p (upd f i (bs ++ num v 1))∧Turned (fun b=>¬ K b) w w':=by
 have:=u8_ws h i v hi hv (by rw [upd_same];exact hL)
 rwa [upd_same,upd_upd]at this
theorem u16_wu {bs:List UInt8} (i v:Nat) (h:Wrs w K n p (upd f i bs)) (hi:i<n) (hv:v<65536) (hL:bs.length+2≤1099511627776) :
  Calls Tryz.prog 146 #[pt (p i),.int .u16 v] w fun e w'=>e = .returned (.tuple #[])∧Wrs w' K n p (upd f i (bs ++ num v 2))∧Turned (fun b=>¬ K b) w w':=by
 have:=u16_ws h i v hi hv (by rw [upd_same];exact hL)
 rwa [upd_same,upd_upd]at this
theorem u32_wu {bs:List UInt8} (i v:Nat) (h:Wrs w K n p (upd f i bs)) (hi:i<n) (hv:v<4294967296) (hL:bs.length+4≤1099511627776) :
  Calls Tryz.prog 150 #[pt (p i),.int .u32 v] w fun e w'=>e = .returned (.tuple #[])∧Wrs w' K n p (upd f i (bs ++ num v 4))∧Turned (fun b=>¬ K b) w w':=by
 have:=u32_ws h i v hi hv (by rw [upd_same];exact hL)
 rwa [upd_same,upd_upd]at this
end
set_option maxHeartbeats 4000000 in
theorem row_any {K:Nat→Prop} {n:Nat} {p:Nat→Nat} {f:Nat→List UInt8} (S:Nat→Prop) (a:Option Addr) (cap:Nat) (r:Rw) (N:Int) (w:World) (h:Ints w S a cap r.par) (hg:goodR r N) (hN:N≤131072)
  (hW:Wrs w K n p f) (hn:3≤n) (hS:∀ b,S b→K b) (hl1:(f 1).length≤1000000000) (hl2:(f 2).length≤1000000000) :
  Calls Tryz.prog 220 #[pt (p 1),pt (p 2),rowv a cap r] w fun e w'=>e = .returned (.tuple #[])∧Wrs w' K n p (upd (upd f 2 (f 2 ++ edgeB r)) 1 (f 1 ++ rowB r (f 2).length))∧Turned (fun b=>¬ K b) w w':=by
 obtain ⟨g1,g2,g3,g4,g5,g6,g7⟩:=hg
 obtain ⟨s0,s2,sb⟩:=goodF_state g7
 obtain ⟨tn,htn⟩:∃ k:Nat,r.tree=(k:Int):=⟨r.tree.toNat,by omega⟩
 obtain ⟨gn,hgn⟩:∃ k:Nat,r.gen=(k:Int):=⟨r.gen.toNat,by omega⟩
 obtain ⟨sn,hsn⟩:∃ k:Nat,r.state=(k:Int):=⟨r.state.toNat,by omega⟩
 have HRB:Hid (∀ e,rowB r e=num tn 4 ++ num (firstN r) 4 ++ num (secondN r e) 4 ++ num gn 2 ++ num sn 1):=by
  have q:∀ e,rowB r e=num tn 4 ++ num (firstN r) 4 ++ num (secondN r e) 4 ++ num gn 2 ++ num sn 1:=fun e=>by unfold rowB;rw [htn,hgn,hsn];simp
  exact q
 have hpb:=goodP_bound g6
 have HP:Hid (∀ x∈r.par,0≤x∧x<131072):=by
  have q:∀ x∈r.par,0≤x∧x<131072:=fun x hx=>by have:=hpb x hx;omega
  exact q
 have hm1:((tn:Nat):Int) % 4294967296=(tn:Int):=by omega
 have hm2:((gn:Nat):Int) % 65536=(gn:Int):=by omega
 have hm3:((sn:Nat):Int) % 256=(sn:Int):=by omega
 have B:Hid (tn<65536∧gn≤1023∧sn≤2):=(by omega:tn<65536∧gn≤1023∧sn≤2)
 have LL:Hid ((f 1).length≤1000000000∧(f 2).length≤1000000000):=⟨hl1,hl2⟩
 have HN3:Hid (3≤n):=hn
 have HI:Hid (Ints w S a cap r.par):=h
 have HS:Hid (∀ b,S b→K b):=hS
 have HPL:Hid (r.par.length≤16):=g1
 obtain ⟨L,hL⟩:∃ L,L=r.par.length:=⟨_,rfl⟩
 have HL:Hid (L=r.par.length):=hL
 unfold rowv
 rw [htn,hgn,hsn,←hL]
 generalize hw1:w.alloc (.cells #[.slice a L cap,.int .i64 (tn:Nat),.int .i64 (gn:Nat),.int .i64 (sn:Nat),.string r.bits] 48)=w1
 have hbx:w1.heap[w.heap.size]? = some (.cells #[.slice a L cap,.int .i64 (tn:Nat),.int .i64 (gn:Nat),.int .i64 (sn:Nat),.string r.bits] 48 (0,0)):=by rw [←hw1];exact heap_alloc_last w _
 have ht1:Turned (fun _=>False) w w1:=by rw [←hw1];exact Turned.alloc _ _ _
 have hz1:w1.heap.size=w.heap.size+1:=by rw [←hw1];simp
 obtain ⟨K1,hK1⟩:∃ K1:Nat→Prop,K1=fun b=>K b∨(w.heap.size≤b∧b<w1.heap.size):=⟨_,rfl⟩
 have hW1:Wrs w1 K1 n p f:=by rw [hK1];exact hW.turned (ht1.mono fun _ _ q=>q.elim)
 have hKK:∀ b,K b→K1 b:=fun b q=>by rw [hK1];exact .inl q
 have hKb:K1 w.heap.size:=by rw [hK1];exact .inr ⟨Nat.le_refl _,by omega⟩
 have W1:Hid (Wrs w1 K1 n p f):=hW1
 have KK:Hid (∀ b,K b→K1 b):=hKK
 have FIN:Hid (∀ w' f',Wrs w' K1 n p f'→Turned (fun b=>¬ K1 b) w1 w'→Wrs w' K n p f'∧Turned (fun b=>¬ K b) w w'):=by
  have q:∀ w' f',Wrs w' K1 n p f'→Turned (fun b=>¬ K1 b) w1 w'→Wrs w' K n p f'∧Turned (fun b=>¬ K b) w w':=fun w' f' h1 h2=>
   ⟨h1.mono hKK,ht1.comp h2 fun b hb q=>q.elim (fun q=>q.elim) fun q k=>q (hKK b k)⟩
  exact q
 have BX:Hid (∀ W,Turned (fun b=>¬ K1 b) w1 W→W.heap[w.heap.size]? = some (.cells #[.slice a L cap,.int .i64 (tn:Nat),.int .i64 (gn:Nat),.int .i64 (sn:Nat),.string r.bits] 48 (0,0))):=by
  have q:∀ W,Turned (fun b=>¬ K1 b) w1 W→W.heap[w.heap.size]? = some (.cells #[.slice a L cap,.int .i64 (tn:Nat),.int .i64 (gn:Nat),.int .i64 (sn:Nat),.string r.bits] 48 (0,0)):=fun W t=>by
   rw [t.block _ (by omega) fun q=>q hKb];exact hbx
  exact q
 have PI:Hid (∀ W,Turned (fun b=>¬ K1 b) w1 W→Ints W S a cap r.par):=by
  have q:∀ W,Turned (fun b=>¬ K1 b) w1 W→Ints W S a cap r.par:=fun W t=>(h.turned ht1 fun _ _ q=>q).turned t fun b q z=>z (hKK b (hS b q))
  exact q
 have HW1:Hid (w.alloc (.cells #[.slice a L cap,.int .i64 (tn:Nat),.int .i64 (gn:Nat),.int .i64 (sn:Nat),.string r.bits] 48)=w1):=hw1
 have TT:Hid (∀ W,Turned (fun b=>¬ K1 b) (w.alloc (.cells #[.slice a L cap,.int .i64 (tn:Nat),.int .i64 (gn:Nat),.int .i64 (sn:Nat),.string r.bits] 48)) W→Turned (fun b=>¬ K1 b) w1 W):=by
  have q:∀ W,Turned (fun b=>¬ K1 b) (w.alloc (.cells #[.slice a L cap,.int .i64 (tn:Nat),.int .i64 (gn:Nat),.int .i64 (sn:Nat),.string r.bits] 48)) W→Turned (fun b=>¬ K1 b) w1 W:=fun W q=>by rw [←hw1];exact q
  exact q
 have k0:=cell_of hbx 0 _ rfl
 have hlw:=lt_of_block hbx
 by_cases h0:L=0
 ·have HPAR : Hid (r.par = []) := List.eq_nil_of_length_eq_zero (by rw [← hL]; exact h0)
  subst h0
  clear hw1 hbx ht1 hz1 hW1 hKK hKb hK1 hS hl1 hl2 h g1 g2 g3 g4 g5 g6 g7 hL hn hW hpb htn hgn hsn s0 s2 sb k0 hlw
  have hA:Calls Tryz.prog 150 #[pt (p 1),.int .u32 (tn:Nat)] (w.alloc (.cells #[.slice a 0 cap,.int .i64 (tn:Nat),.int .i64 (gn:Nat),.int .i64 (sn:Nat),.string r.bits] 48)) _:=u32_wu (f:=f) 1 tn (by rw [upd_self,HW1.out];exact W1.out) (by have:=HN3.out;omega) (by have:=B.out;omega) (by have:=LL.out.1;omega)
  go_enter Tryz.func220,Tryz.ntmps220
  go_wp2_with (first
   |(go_at_call 150;(with_reducible refine hA.mono ?_);rintro e w2 ⟨rfl,hws2,ht2⟩;have T2:Hid (Turned (fun b=>¬ K1 b) w1 w2):=TT.out _ ht2;have hB:Calls Tryz.prog 150 #[pt (p 1),.int .u32 4294967295] w2 _:=u32_wu (f:=f) 1 (4294967295) hws2 (by have:=HN3.out;omega) (by decide) (by have:=LL.out.1;simp only [List.length_append,num_length];omega);clear hws2 ht2)
   |(go_at_call 150;(with_reducible refine hB.mono ?_);rintro e w3 ⟨rfl,hws3,ht3⟩;have T3:Hid (Turned (fun b=>¬ K1 b) w1 w3):=T2.out.trans ht3 (fun _ _ q=>q);have hC:Calls Tryz.prog 150 #[pt (p 1),.int .u32 4294967295] w3 _:=u32_wu (f:=f) 1 (4294967295) hws3 (by have:=HN3.out;omega) (by decide) (by have:=LL.out.1;simp only [List.length_append,num_length];omega);clear hws3 ht3)
   |(go_at_call 150;(with_reducible refine hC.mono ?_);rintro e w4 ⟨rfl,hws4,ht4⟩;have T4:Hid (Turned (fun b=>¬ K1 b) w1 w4):=T3.out.trans ht4 (fun _ _ q=>q);have hl4:=lt_of_block (BX.out w4 T4.out);have x4:=cell_of (BX.out w4 T4.out) 2 _ rfl;have hD:=u16_wu (f:=f) 1 gn hws4 (by have:=HN3.out;omega) (by have:=B.out;omega) (by have:=LL.out.1;simp only [List.length_append,num_length];omega);clear hws4 ht4)
   |(go_at_call 146;(with_reducible refine hD.mono ?_);rintro e w5 ⟨rfl,hws5,ht5⟩;have T5:Hid (Turned (fun b=>¬ K1 b) w1 w5):=T4.out.trans ht5 (fun _ _ q=>q);have hl5:=lt_of_block (BX.out w5 T5.out);have x5:=cell_of (BX.out w5 T5.out) 3 _ rfl;have hE:=u8_wu (f:=f) 1 sn hws5 (by have:=HN3.out;omega) (by have:=B.out;omega) (by have:=LL.out.1;simp only [List.length_append,num_length];omega);clear hws5 ht5)
   |(go_at_call 148;(with_reducible refine hE.mono ?_);rintro e w6 ⟨rfl,hws6,ht6⟩;have T6:Hid (Turned (fun b=>¬ K1 b) w1 w6):=T5.out.trans ht6 (fun _ _ q=>q)))
  go_end0
  obtain ⟨z1,z2⟩:=FIN.out w6 _ hws6 T6.out
  refine ⟨rfl,?_,z2⟩
  rw [HRB.out]
  have hE0:edgeB r=[]:=by unfold edgeB;rw [if_neg (by rw [HPAR.out,List.length_nil];omega)]
  rw [hE0,List.append_nil,upd_self]
  have e1:firstN r=4294967295:=by unfold firstN;rw [HPAR.out]
  have e2:secondN r (f 2).length=4294967295:=by unfold secondN;rw [if_neg (by rw [HPAR.out,List.length_nil];omega),if_neg (by rw [HPAR.out];simp)]
  rw [e1,e2]
  simpa only [List.append_assoc] using z1
 by_cases h1:L=1
 ·obtain ⟨x, hx⟩ : ∃ x, r.par = [x] := List.length_eq_one_iff.1 (by rw [← hL]; exact h1)
  have hxb:=HP.out x (by rw [hx];simp)
  obtain ⟨y,rfl⟩:∃ y:Nat,x=(y:Int):=⟨x.toNat,by omega⟩
  have HPAR:Hid (r.par=[(y:Int)]):=hx
  have HY:Hid (y<131072):=(by omega:y<131072)
  have hy:((y:Nat):Int) % 4294967296=(y:Int):=by omega
  obtain ⟨g,off,rfl,hSg,hgl,c0⟩:=ints_at h 0 (y:Int) (by rw [hx];rfl)
  rw [Nat.add_zero]at c0
  have hne:g≠w.heap.size:=by omega
  subst h1
  clear hw1 hbx ht1 hz1 hW1 hKK hKb hK1 hS hl1 hl2 h g1 g2 g3 g4 g5 g6 g7 hL hn hW hpb htn hgn hsn s0 s2 sb k0 hlw
  clear hx hxb hSg h0
  have hA:Calls Tryz.prog 150 #[pt (p 1),.int .u32 (tn:Nat)] (w.alloc (.cells #[.slice (some ⟨g,off,none⟩) 1 cap,.int .i64 (tn:Nat),.int .i64 (gn:Nat),.int .i64 (sn:Nat),.string r.bits] 48)) _:=u32_wu (f:=f) 1 tn (by rw [upd_self,HW1.out];exact W1.out) (by have:=HN3.out;omega) (by have:=B.out;omega) (by have:=LL.out.1;omega)
  go_enter Tryz.func220,Tryz.ntmps220
  go_wp2_with (first
   |(go_at_call 150;(with_reducible refine hA.mono ?_);rintro e w2 ⟨rfl,hws2,ht2⟩;have T2:Hid (Turned (fun b=>¬ K1 b) w1 w2):=TT.out _ ht2;have hB:Calls Tryz.prog 150 #[pt (p 1),.int .u32 (y:Nat)] w2 _:=u32_wu (f:=f) 1 (y) hws2 (by have:=HN3.out;omega) (by have:=HY.out;omega) (by have:=LL.out.1;simp only [List.length_append,num_length];omega);clear hws2 ht2)
   |(go_at_call 150;(with_reducible refine hB.mono ?_);rintro e w3 ⟨rfl,hws3,ht3⟩;have T3:Hid (Turned (fun b=>¬ K1 b) w1 w3):=T2.out.trans ht3 (fun _ _ q=>q);have hC:Calls Tryz.prog 150 #[pt (p 1),.int .u32 4294967295] w3 _:=u32_wu (f:=f) 1 (4294967295) hws3 (by have:=HN3.out;omega) (by decide) (by have:=LL.out.1;simp only [List.length_append,num_length];omega);clear hws3 ht3)
   |(go_at_call 150;(with_reducible refine hC.mono ?_);rintro e w4 ⟨rfl,hws4,ht4⟩;have T4:Hid (Turned (fun b=>¬ K1 b) w1 w4):=T3.out.trans ht4 (fun _ _ q=>q);have hl4:=lt_of_block (BX.out w4 T4.out);have x4:=cell_of (BX.out w4 T4.out) 2 _ rfl;have hD:=u16_wu (f:=f) 1 gn hws4 (by have:=HN3.out;omega) (by have:=B.out;omega) (by have:=LL.out.1;simp only [List.length_append,num_length];omega);clear hws4 ht4)
   |(go_at_call 146;(with_reducible refine hD.mono ?_);rintro e w5 ⟨rfl,hws5,ht5⟩;have T5:Hid (Turned (fun b=>¬ K1 b) w1 w5):=T4.out.trans ht5 (fun _ _ q=>q);have hl5:=lt_of_block (BX.out w5 T5.out);have x5:=cell_of (BX.out w5 T5.out) 3 _ rfl;have hE:=u8_wu (f:=f) 1 sn hws5 (by have:=HN3.out;omega) (by have:=B.out;omega) (by have:=LL.out.1;simp only [List.length_append,num_length];omega);clear hws5 ht5)
   |(go_at_call 148;(with_reducible refine hE.mono ?_);rintro e w6 ⟨rfl,hws6,ht6⟩;have T6:Hid (Turned (fun b=>¬ K1 b) w1 w6):=T5.out.trans ht6 (fun _ _ q=>q)))
  go_end0
  obtain ⟨z1,z2⟩:=FIN.out w6 _ hws6 T6.out
  refine ⟨rfl,?_,z2⟩
  rw [HRB.out]
  have hE0:edgeB r=[]:=by unfold edgeB;rw [if_neg (by rw [HPAR.out,List.length_singleton];omega)]
  rw [hE0,List.append_nil,upd_self]
  have e1:firstN r=y:=by unfold firstN;rw [HPAR.out];rfl
  have e2:secondN r (f 2).length=4294967295:=by unfold secondN;rw [if_neg (by rw [HPAR.out,List.length_singleton];omega),if_neg (by rw [HPAR.out];simp)]
  rw [e1,e2]
  simpa only [List.append_assoc] using z1
 by_cases h2:L=2
 ·obtain ⟨x, x', hx⟩ : ∃ x x', r.par = [x, x'] := len_two (by rw [← hL]; exact h2)
  have hxb:=HP.out x (by rw [hx];simp)
  have hxb':=HP.out x' (by rw [hx];simp)
  obtain ⟨y,rfl⟩:∃ y:Nat,x=(y:Int):=⟨x.toNat,by omega⟩
  obtain ⟨y',rfl⟩:∃ y:Nat,x'=(y:Int):=⟨x'.toNat,by omega⟩
  have HPAR:Hid (r.par=[(y:Int),(y' : Int)]):=hx
  have HY:Hid (y<131072∧y'<131072):=(by omega:y<131072∧y'<131072)
  have hy:((y:Nat):Int) % 4294967296=(y:Int):=by omega
  have hy' : ((y' : Nat):Int) % 4294967296=(y' : Int):=by omega
  obtain ⟨g,off,rfl,hSg,hgl,c0⟩:=ints_at h 0 (y:Int) (by rw [hx];rfl)
  rw [Nat.add_zero]at c0
  obtain ⟨g',off',hgg,-,-,c1⟩:=ints_at h 1 (y' : Int) (by rw [hx];rfl)
  injection hgg with hgg
  injection hgg with q1 q2
  subst q1
  subst q2
  have hne:g≠w.heap.size:=by omega
  subst h2
  clear hw1 hbx ht1 hz1 hW1 hKK hKb hK1 hS hl1 hl2 h g1 g2 g3 g4 g5 g6 g7 hL hn hW hpb htn hgn hsn s0 s2 sb k0 hlw
  clear hx hxb hxb' hSg h0 h1
  have hA:Calls Tryz.prog 150 #[pt (p 1),.int .u32 (tn:Nat)] (w.alloc (.cells #[.slice (some ⟨g,off,none⟩) 2 cap,.int .i64 (tn:Nat),.int .i64 (gn:Nat),.int .i64 (sn:Nat),.string r.bits] 48)) _:=u32_wu (f:=f) 1 tn (by rw [upd_self,HW1.out];exact W1.out) (by have:=HN3.out;omega) (by have:=B.out;omega) (by have:=LL.out.1;omega)
  go_enter Tryz.func220,Tryz.ntmps220
  go_wp2_with (first
   |(go_at_call 150;(with_reducible refine hA.mono ?_);rintro e w2 ⟨rfl,hws2,ht2⟩;have T2:Hid (Turned (fun b=>¬ K1 b) w1 w2):=TT.out _ ht2;have hB:Calls Tryz.prog 150 #[pt (p 1),.int .u32 (y:Nat)] w2 _:=u32_wu (f:=f) 1 (y) hws2 (by have:=HN3.out;omega) (by have:=HY.out;omega) (by have:=LL.out.1;simp only [List.length_append,num_length];omega);clear hws2 ht2)
   |(go_at_call 150;(with_reducible refine hB.mono ?_);rintro e w3 ⟨rfl,hws3,ht3⟩;have T3:Hid (Turned (fun b=>¬ K1 b) w1 w3):=T2.out.trans ht3 (fun _ _ q=>q);have hC:Calls Tryz.prog 150 #[pt (p 1),.int .u32 (y' : Nat)] w3 _:=u32_wu (f:=f) 1 (y') hws3 (by have:=HN3.out;omega) (by have:=HY.out;omega) (by have:=LL.out.1;simp only [List.length_append,num_length];omega);clear hws3 ht3)
   |(go_at_call 150;(with_reducible refine hC.mono ?_);rintro e w4 ⟨rfl,hws4,ht4⟩;have T4:Hid (Turned (fun b=>¬ K1 b) w1 w4):=T3.out.trans ht4 (fun _ _ q=>q);have hl4:=lt_of_block (BX.out w4 T4.out);have x4:=cell_of (BX.out w4 T4.out) 2 _ rfl;have hD:=u16_wu (f:=f) 1 gn hws4 (by have:=HN3.out;omega) (by have:=B.out;omega) (by have:=LL.out.1;simp only [List.length_append,num_length];omega);clear hws4 ht4)
   |(go_at_call 146;(with_reducible refine hD.mono ?_);rintro e w5 ⟨rfl,hws5,ht5⟩;have T5:Hid (Turned (fun b=>¬ K1 b) w1 w5):=T4.out.trans ht5 (fun _ _ q=>q);have hl5:=lt_of_block (BX.out w5 T5.out);have x5:=cell_of (BX.out w5 T5.out) 3 _ rfl;have hE:=u8_wu (f:=f) 1 sn hws5 (by have:=HN3.out;omega) (by have:=B.out;omega) (by have:=LL.out.1;simp only [List.length_append,num_length];omega);clear hws5 ht5)
   |(go_at_call 148;(with_reducible refine hE.mono ?_);rintro e w6 ⟨rfl,hws6,ht6⟩;have T6:Hid (Turned (fun b=>¬ K1 b) w1 w6):=T5.out.trans ht6 (fun _ _ q=>q)))
  go_end0
  obtain ⟨z1,z2⟩:=FIN.out w6 _ hws6 T6.out
  refine ⟨rfl,?_,z2⟩
  rw [HRB.out]
  have hE0:edgeB r=[]:=by unfold edgeB;rw [if_neg (by rw [HPAR.out];simp)]
  rw [hE0,List.append_nil,upd_self]
  have e1:firstN r=y:=by unfold firstN;rw [HPAR.out];rfl
  have e2:secondN r (f 2).length=y':=by unfold secondN;rw [if_neg (by rw [HPAR.out];simp),if_pos (by rw [HPAR.out];rfl),HPAR.out];simp []
  rw [e1,e2]
  simpa only [List.append_assoc] using z1
 have h3:2<L:=by omega
 have d2:decide ((2:Int)<(L:Int))=true:=decide_eq_true (by omega)
 have d0:decide ((0:Int)<(L:Int))=true:=decide_eq_true (by omega)
 have hL16:L≤16:=by have:=HPL.out;omega
 obtain ⟨m,hm⟩:∃ m,m=(f 2).length:=⟨_,rfl⟩
 have HM:Hid (m=(f 2).length):=hm
 have hle:Calls Tryz.prog 221 #[pt (p 2)] (w.alloc (.cells #[.slice a L cap,.int .i64 (tn:Nat),.int .i64 (gn:Nat),.int .i64 (sn:Nat),.string r.bits] 48)) fun e w'=>e = .returned (.int .i64 (m:Nat))∧(w.alloc (.cells #[.slice a L cap,.int .i64 (tn:Nat),.int .i64 (gn:Nat),.int .i64 (sn:Nat),.string r.bits] 48))=w':=by
  rw [HW1.out,hm];exact len_ws hW1 2 (by omega)
 have hmb:m≤1000000000:=by rw [hm];exact hl2
 obtain ⟨q4,hq4⟩:∃ q4,q4=m / 4:=⟨_,rfl⟩
 have hm4:((m:Nat):Int) / 4=(q4:Int):=by omega
 have hm5:((q4:Nat):Int) % 4294967296=(q4:Int):=by omega
 obtain ⟨s4,hs4⟩:∃ s4,s4=2147483648+q4:=⟨_,rfl⟩
 have hm6:(2147483648+((q4:Nat):Int)) % 4294967296=(s4:Int):=by omega
 have HQ:Hid (s4=2147483648+m / 4∧s4<4294967296):=(by omega:s4=2147483648+m / 4∧s4<4294967296)
 obtain ⟨L1,hL1⟩:∃ L1,L1+1=L:=⟨L - 1,by omega⟩
 have hLs:((L:Nat):Int) - 1=(L1:Int):=by omega
 have HL1:Hid (L1+1=L):=hL1
 obtain ⟨L2,hL2⟩:∃ L2,L2=r.par.length - 2:=⟨_,rfl⟩
 have HL2:Hid (L2=r.par.length - 2∧L2+2=L):=⟨hL2,by omega⟩
 have hcut:∃ a' cap',(∀ W,(Instr.slice 41 (.slice a L cap) (some (.int .i64 1)) (some (.int .i64 (L1:Int))) none).run Tryz.prog W = .ok (.slice a' L2 cap') W)∧∀ W,Turned (fun b=>¬ K1 b) w1 W→Ints W S a' cap' ((r.par.drop 1).take L2):=by
  obtain ⟨a',cap',e1,e2⟩:=ints_cut S a cap r.par (by omega) w h
  rw [←hL2,show r.par.length - 1=L1 by omega,←hL]at e1
  refine ⟨a',cap',e1,fun W t=>?_⟩
  rw [hL2]
  exact e2 W (PI.out W t)
 obtain ⟨a',cap',hsl,hcr⟩:=hcut
 have HCR:Hid (∀ W,Turned (fun b=>¬ K1 b) w1 W→Ints W S a' cap' ((r.par.drop 1).take L2)):=hcr
 clear hm hq4 hs4 hL1 hL2 hcr h3 hmb
 clear hw1 hbx ht1 hz1 hW1 hKK hKb hK1 hS hl1 hl2 h g1 g2 g3 g4 g5 g6 g7 hL hn hW hpb htn hgn hsn s0 s2 sb k0 hlw
 go_enter Tryz.func220,Tryz.ntmps220
 go_wp2_with (go_at_call 221;(with_reducible refine hle.mono ?_);rintro e w2 ⟨rfl,rfl⟩)
 rw [hm6]
 have HS:Hid (MidRel p f n ((r.par.drop 1).take L2) K1 w1 L2 (.int .i64 0) (w.alloc (.cells #[.slice a L cap,.int .i64 (tn:Nat),.int .i64 (gn:Nat),.int .i64 (sn:Nat),.string r.bits] 48))):=by
  refine ⟨0,?_,rfl,?_,?_⟩
  ·have h1 := HL2.out.1
   have h2:=HL2.out.2
   have h3:=HL.out
   simp only [List.length_take,List.length_drop]
   omega
  ·rw [HW1.out]
   simpa [midB,upd_self] using W1.out
  ·rw [HW1.out];exact Turned.refl _ _
 go_loopg [28] L2 (fun g i wr=>MidRel p f n ((r.par.drop 1).take L2) K1 w1 g i wr)
 case atStart=>exact HS.out
 case round=>
  obtain ⟨j,hjg,rfl,hws,htr⟩:=hrel
  have G:Hid (j+gk=((r.par.drop 1).take L2).length):=hjg
  have WS:Hid (Wrs wr K1 n p (upd f 2 (f 2 ++ midB (((r.par.drop 1).take L2).take j)))):=hws
  have T:Hid (Turned (fun b=>¬ K1 b) w1 wr):=htr
  have CL:Hid (((r.par.drop 1).take L2).length=L2):=by
   have h1:=HL2.out.1
   have h2:=HL2.out.2
   have h3:=HL.out
   have q:((r.par.drop 1).take L2).length=L2:=by simp only [List.length_take,List.length_drop];omega
   exact q
  clear hjg hws htr HS
  by_cases hlt:j<L2
  ·obtain ⟨x, hx⟩ : ∃ x, ((r.par.drop 1).take L2)[j]? = some x := ⟨_, List.getElem?_eq_getElem (by rw [CL.out]; exact hlt)⟩
   have hxb:=HP.out x (List.mem_of_mem_drop (List.mem_of_mem_take (List.mem_of_getElem? hx)))
   obtain ⟨y,rfl⟩:∃ y:Nat,x=(y:Int):=⟨x.toNat,by omega⟩
   obtain ⟨g,off,rfl,-,hgl,c0⟩:=ints_at (HCR.out wr T.out) j (y:Int) hx
   have hy:((y:Nat):Int) % 4294967296=(y:Int):=by omega
   have C:Hid (((r.par.drop 1).take L2)[j]? = some (y:Int)):=hx
   have hA:=u32_wu (f:=f) 2 y WS.out (by have:=HN3.out;omega) (by omega) (by
    have:=LL.out.2;have h1:=HL2.out.2;have h2:=CL.out
    simp only [List.length_append,midB_length,List.length_take]at h2 ⊢;omega)
   clear hx hxb
   go_wp2_with (go_at_call 150;(with_reducible refine hA.mono ?_);rintro e w2 ⟨rfl,hws2,ht2⟩)
   go_roundg (gk - 1)
   case measure=>have:=G.out;have:=CL.out;omega
   case rel=>
    refine ⟨j+1,by have:=G.out;have:=CL.out;omega,by have:=HL2.out.2;simp [wrap64];omega,?_,T.out.trans ht2 fun _ _ q=>q⟩
    rw [midB_snoc _ j _ C.out,←List.append_assoc]
    exact hws2
  ·have hj : j = L2 := by have := G.out; have := CL.out; omega
   have htk:((r.par.drop 1).take L2).take j=(r.par.drop 1).take L2:=List.take_of_length_le (by rw [CL.out];omega)
   rw [htk]at WS
   obtain ⟨x,hx⟩:∃ x,r.par[L1]? = some x:=⟨_,List.getElem?_eq_getElem (by have:=HL1.out;have:=HL.out;omega)⟩
   have hxb:=HP.out x (List.mem_of_getElem? hx)
   obtain ⟨y,rfl⟩:∃ y:Nat,x=(y:Int):=⟨x.toNat,by omega⟩
   obtain ⟨x2,hx2⟩:∃ x,r.par[0]? = some x:=⟨_,List.getElem?_eq_getElem (by have:=HL1.out;have:=HL.out;omega)⟩
   have hxb2:=HP.out x2 (List.mem_of_getElem? hx2)
   obtain ⟨z,rfl⟩:∃ y:Nat,x2=(y:Int):=⟨x2.toNat,by omega⟩
   obtain ⟨g,off,rfl,-,hgl,c0⟩:=ints_at (PI.out wr T.out) L1 (y:Int) hx
   have hy:((y:Nat):Int) % 4294967296=(y:Int):=by omega
   obtain ⟨y2,hy2⟩:∃ y2,y2=y+2147483648:=⟨_,rfl⟩
   have hym:((y:Nat):Int)+2147483648=(y2:Int):=by omega
   have hyk:(((y:Nat):Int)+2147483648) % 4294967296=(y2:Int):=by omega
   have hz:((z:Nat):Int) % 4294967296=(z:Int):=by omega
   have k0:=cell_of (BX.out wr T.out) 0 _ rfl
   have hlw:=lt_of_block (BX.out wr T.out)
   have PZ:Hid (r.par[L1]? = some (y:Int)∧r.par[0]? = some (z:Int)∧y2=y+2147483648∧z<4294967296):=⟨hx,hx2,hy2,by omega⟩
   have hA0:=u32_wu (f:=f) 2 y2 WS.out (by have:=HN3.out;omega) (by omega) (by
    have:=LL.out.2;have h1:=HL2.out.2;have h2:=CL.out
    simp only [List.length_append,midB_length,List.length_take]at h2 ⊢;omega)
   clear hx hxb hx2 hxb2 hy2 hj htk
   have PW:Hid (∀ W,Turned (fun b=>¬ K1 b) w1 W→W.cell? ⟨g,off,none⟩=some (.int .i64 (z:Int))∧g<W.heap.size):=by
    have q:∀ W,Turned (fun b=>¬ K1 b) w1 W→W.cell? ⟨g,off,none⟩=some (.int .i64 (z:Int))∧g<W.heap.size:=fun W t=>by
     obtain ⟨g2,off2,hgg,-,hl2,c2⟩:=ints_at (PI.out W t) 0 (z:Int) PZ.out.2.1
     injection hgg with hgg
     injection hgg with q1 q2
     subst q1
     subst q2
     exact ⟨c2,hl2⟩
    exact q
   go_wp2_with (first
    |(go_at_call 150;(with_reducible refine hA0.mono ?_);rintro e v2 ⟨rfl,hws2,ht2⟩;have V2:Hid (Turned (fun b=>¬ K1 b) w1 v2):=T.out.trans ht2 (fun _ _ q=>q);obtain ⟨y0,yl⟩:=PW.out v2 V2.out;have y3:=cell_of (BX.out v2 V2.out) 0 _ rfl;have y4:=cell_of (BX.out v2 V2.out) 1 _ rfl;have yl2:=lt_of_block (BX.out v2 V2.out);have hA:Calls Tryz.prog 150 #[pt (p 1),.int .u32 (tn:Nat)] v2 _:=u32_wu (f:=(upd f 2 (f 2 ++ midB ((r.par.drop 1).take L2) ++ num y2 4))) 1 tn (by rw [upd_self (upd f 2 (f 2 ++ midB ((r.par.drop 1).take L2) ++ num y2 4)) 1];exact hws2) (by have:=HN3.out;omega) (by have:=B.out;omega) (by have:=LL.out.1;rw [upd_other _ _ _ _ (by decide)];omega);clear hws2 ht2 hA0)
    |(go_at_call 150;(with_reducible refine hA.mono ?_);rintro e w2 ⟨rfl,hws2,ht2⟩;have T2:Hid (Turned (fun b=>¬ K1 b) w1 w2):=V2.out.trans ht2 (fun _ _ q=>q);have hB:Calls Tryz.prog 150 #[pt (p 1),.int .u32 (z:Nat)] w2 _:=u32_wu (f:=(upd f 2 (f 2 ++ midB ((r.par.drop 1).take L2) ++ num y2 4))) 1 (z) hws2 (by have:=HN3.out;omega) (by have:=PZ.out.2.2.2;omega) (by have:=LL.out.1;rw [upd_other _ _ _ _ (by decide)];simp only [List.length_append,num_length];omega);clear hws2 ht2)
    |(go_at_call 150;(with_reducible refine hB.mono ?_);rintro e w3 ⟨rfl,hws3,ht3⟩;have T3:Hid (Turned (fun b=>¬ K1 b) w1 w3):=T2.out.trans ht3 (fun _ _ q=>q);have hC:Calls Tryz.prog 150 #[pt (p 1),.int .u32 (s4:Nat)] w3 _:=u32_wu (f:=(upd f 2 (f 2 ++ midB ((r.par.drop 1).take L2) ++ num y2 4))) 1 (s4) hws3 (by have:=HN3.out;omega) (by have:=HQ.out.2;omega) (by have:=LL.out.1;rw [upd_other _ _ _ _ (by decide)];simp only [List.length_append,num_length];omega);clear hws3 ht3)
    |(go_at_call 150;(with_reducible refine hC.mono ?_);rintro e w4 ⟨rfl,hws4,ht4⟩;have T4:Hid (Turned (fun b=>¬ K1 b) w1 w4):=T3.out.trans ht4 (fun _ _ q=>q);have hl4:=lt_of_block (BX.out w4 T4.out);have x4:=cell_of (BX.out w4 T4.out) 2 _ rfl;have hD:=u16_wu (f:=(upd f 2 (f 2 ++ midB ((r.par.drop 1).take L2) ++ num y2 4))) 1 gn hws4 (by have:=HN3.out;omega) (by have:=B.out;omega) (by have:=LL.out.1;rw [upd_other _ _ _ _ (by decide)];simp only [List.length_append,num_length];omega);clear hws4 ht4)
    |(go_at_call 146;(with_reducible refine hD.mono ?_);rintro e w5 ⟨rfl,hws5,ht5⟩;have T5:Hid (Turned (fun b=>¬ K1 b) w1 w5):=T4.out.trans ht5 (fun _ _ q=>q);have hl5:=lt_of_block (BX.out w5 T5.out);have x5:=cell_of (BX.out w5 T5.out) 3 _ rfl;have hE:=u8_wu (f:=(upd f 2 (f 2 ++ midB ((r.par.drop 1).take L2) ++ num y2 4))) 1 sn hws5 (by have:=HN3.out;omega) (by have:=B.out;omega) (by have:=LL.out.1;rw [upd_other _ _ _ _ (by decide)];simp only [List.length_append,num_length];omega);clear hws5 ht5)
    |(go_at_call 148;(with_reducible refine hE.mono ?_);rintro e w6 ⟨rfl,hws6,ht6⟩;have T6:Hid (Turned (fun b=>¬ K1 b) w1 w6):=T5.out.trans ht6 (fun _ _ q=>q)))
   go_end0
   obtain ⟨z1,z2⟩:=FIN.out w6 _ hws6 T6.out
   refine ⟨rfl,?_,z2⟩
   rw [HRB.out]
   have e1:firstN r=z:=by
    have:=PZ.out.2.1
    unfold firstN
    cases hp:r.par with
    |nil=>rw [hp]at this;simp at this
    |cons u l=>rw [hp]at this;obtain rfl:=Option.some.inj this;simp
   have e2:secondN r (f 2).length=s4:=by
    unfold secondN
    rw [if_pos (by have:=HL.out;have:=HL2.out;omega),HQ.out.1,HM.out]
   have e3:edgeB r=midB ((r.par.drop 1).take L2) ++ num y2 4:=by
    unfold edgeB
    rw [if_pos (by have:=HL.out;have:=HL2.out;omega),←HL2.out.1,show r.par.length - 1=L1 by have:=HL1.out;have:=HL.out;omega,PZ.out.1,PZ.out.2.2.1]
    simp
   rw [e1,e2,e3]
   rw [upd_other _ _ _ _ (by decide)]at z1
   simpa only [List.append_assoc] using z1
end Go.Proofs.YtofcogekgcgjhaaGreatDoor
namespace Go.Proofs.YtofcogekgcgjhaaGreatDoor
open Go.RowKit Go.Mine
structure Tl where
 R:List UInt8
 E:List UInt8
 N:List UInt8
 B:List UInt8
def stepT (t:Tl) (r:Rw):Tl:=⟨t.R ++ rowB r t.E.length,t.E ++ edgeB r,t.N ++ num (t.B ++ r.bits.data.toList).length 4,t.B ++ r.bits.data.toList⟩
def tellT (l:List Rw):Tl:=l.foldl stepT ⟨[],[],[],[]⟩
theorem tellT_snoc (l:List Rw) (r:Rw):tellT (l ++ [r])=stepT (tellT l) r:=by simp [tellT]
theorem tellT_take (l:List Rw) (j:Nat) (r:Rw) (h:l[j]? = some r):tellT (l.take (j+1))=stepT (tellT (l.take j)) r:=by
 rw [List.take_add_one,h]
 exact tellT_snoc _ _
def headB (g:Gr):List UInt8:=num g.base.toNat 4 ++ num g.rows.length 4 ++ num g.h.toNat 1 ++ num g.p.toNat 1 ++ num g.m.toNat 2 ++ num g.seed 4
def chunksG (g:Gr):List Ch:=[(1,⟨(headB g).toArray⟩),(2,⟨(tellT g.rows).R.toArray⟩),(3,⟨(tellT g.rows).E.toArray⟩),(4,⟨(tellT g.rows).N.toArray⟩),(5,⟨(tellT g.rows).B.toArray⟩)]
noncomputable def encG (g:Gr):Value:=
 if grErr g=0 then if 4194304<(tellT g.rows).B.length then .tuple #[.string ⟨#[]⟩,.int .i64 5] else buildV (chunksG g) else .tuple #[.string ⟨#[]⟩,.int .i64 1]
theorem foldl_snocInd {α β:Type} (f:β→α→β) (P:List α→β→Prop) (b:β) (h0:P [] b) (h1:∀ l x c,P l c→P (l ++ [x]) (f c x)) (l:List α):P l (l.foldl f b):=by
 have:∀ (k:List α) (pre:List α) (c:β),P pre c→P (pre ++ k) (k.foldl f c):=by
  intro k
  induction k with
  |nil=>intro pre c hc;simpa using hc
  |cons x k ih=>
   intro pre c hc
   have:=ih (pre ++ [x]) (f c x) (h1 pre x c hc)
   simpa using this
 simpa using this l [] b h0
theorem tellT_R (l:List Rw):(tellT l).R.length=15 * l.length:=by
 refine foldl_snocInd stepT (fun l t=>t.R.length=15 * l.length) _ rfl (fun l x c h=>?_) l
 simp only [stepT,List.length_append,rowB_length,h,List.length_cons,List.length_nil];omega
theorem tellT_N (l:List Rw):(tellT l).N.length=4 * l.length:=by
 refine foldl_snocInd stepT (fun l t=>t.N.length=4 * l.length) _ rfl (fun l x c h=>?_) l
 simp only [stepT,List.length_append,num_length,h,List.length_cons,List.length_nil];omega
theorem tellT_E (l:List Rw) (hl:∀ r∈l,r.par.length≤16):(tellT l).E.length≤64 * l.length:=by
 have:=foldl_snocInd stepT (fun l t=>(∀ r∈l,r.par.length≤16)→t.E.length≤64 * l.length) ⟨[],[],[],[]⟩ (by simp) (fun l x c h hl=>by
  have h1:=h fun r hr=>hl r (by simp [hr])
  have h2:=edgeB_length x
  have h3:=hl x (by simp)
  simp only [stepT,List.length_append,List.length_cons,List.length_nil];omega) l
 exact this hl
theorem tellT_B_mono (l:List Rw) (j:Nat):(tellT (l.take j)).B.length≤(tellT l).B.length:=by
 have:∀ (k:List Rw) (pre:List Rw),(tellT pre).B.length≤(tellT (pre ++ k)).B.length:=by
  intro k
  induction k with
  |nil=>intro pre;simp
  |cons x k ih=>
   intro pre
   have h1:=ih (pre ++ [x])
   rw [tellT_snoc]at h1
   simp only [stepT,List.length_append]at h1
   rw [List.append_assoc]at h1
   simp only [List.singleton_append]at h1
   omega
 have h:=this (l.drop j) (l.take j)
 rwa [List.take_append_drop]at h
def five {α:Type} (a b c d e:α):Nat→α
 |0=>a
 |1=>b
 |2=>c
 |3=>d
 |_+4=>e
section
variable {α:Type} (a b c d e x y:α)
theorem five0:upd (five a b c d e) 0 x=five x b c d e:=by funext i;rcases i with _|_|_|_|i <;> simp [upd,five]
theorem five_row:upd (upd (five a b c d e) 2 y) 1 x=five a x y d e:=by funext i;rcases i with _|_|_|_|i <;> simp [upd,five]
theorem five3:upd (five a b c d e) 3 x=five a b c x e:=by funext i;rcases i with _|_|_|_|i <;> simp [upd,five]
theorem five4 (i:Nat) (hi:i<5):upd (five a b c d e) 4 x i=five a b c d x i:=by rcases i with _|_|_|_|_|i <;> first|(exfalso;omega)|simp [upd,five]
theorem five_new (p:Nat→α) (i:Nat) (hi:i<5):upd (upd (upd (upd (upd p 0 a) 1 b) 2 c) 3 d) 4 e i=five a b c d e i:=by rcases i with _|_|_|_|_|i <;> first|(exfalso;omega)|simp [upd,five]
end
theorem RwIs.bound {w:World} {S:Nat→Prop} {a:Option Addr} {cap:Nat} {l:List Rw} (h:RwIs w S a cap l):RwIs w (fun b=>b<w.heap.size) a cap l:=by
 obtain ⟨h1,h2,h3,h4⟩:=h
 refine ⟨h1,h2,h3,fun q=>?_⟩
 obtain ⟨g,off,rfl,hg,hl,hc⟩:=h4 q
 refine ⟨g,off,rfl,hl,hl,fun i r hr=>?_⟩
 obtain ⟨a,cap,⟨i1,i2,i3,i4⟩,k⟩:=hc i r hr
 refine ⟨a,cap,⟨i1,i2,i3,fun q=>?_⟩,k⟩
 obtain ⟨g,off,rfl,hg,hl,hc⟩:=i4 q
 exact ⟨g,off,rfl,hl,hl,hc⟩
theorem chIs_five (w:World) (a b c d e:ByteArray) (hs:a.size≤140737488355328∧b.size≤140737488355328∧c.size≤140737488355328∧d.size≤140737488355328∧e.size≤140737488355328) :
  ChIs (w.alloc (.cells #[.int .u32 1,.string a,.int .u32 2,.string b,.int .u32 3,.string c,.int .u32 4,.string d,.int .u32 5,.string e] 285)) (some ⟨w.heap.size,0,none⟩) 5 [(1,a),(2,b),(3,c),(4,d),(5,e)]:=by
 obtain ⟨h1,h2,h3,h4,h5⟩:=hs
 have hh:=heap_alloc_last w (.cells #[.int .u32 1,.string a,.int .u32 2,.string b,.int .u32 3,.string c,.int .u32 4,.string d,.int .u32 5,.string e] 285)
 refine ⟨Nat.le_refl _,by simp [maxLen],fun x hx=>?_,fun _=>⟨w.heap.size,0,rfl,by simp,fun i x hi=>?_⟩⟩
 ·simp only [List.mem_cons, List.not_mem_nil, or_false] at hx
  rcases hx with rfl|rfl|rfl|rfl|rfl
  ·exact ⟨(by decide:(1:Nat)<4294967296),h1⟩
  ·exact ⟨(by decide:(2:Nat)<4294967296),h2⟩
  ·exact ⟨(by decide:(3:Nat)<4294967296),h3⟩
  ·exact ⟨(by decide:(4:Nat)<4294967296),h4⟩
  ·exact ⟨(by decide:(5:Nat)<4294967296),h5⟩
 ·rcases i with _ | _ | _ | _ | _ | i
  ·obtain rfl:=Option.some.inj hi;exact ⟨cell_of hh 0 _ rfl,cell_of hh 1 _ rfl⟩
  ·obtain rfl:=Option.some.inj hi;exact ⟨cell_of hh 2 _ rfl,cell_of hh 3 _ rfl⟩
  ·obtain rfl:=Option.some.inj hi;exact ⟨cell_of hh 4 _ rfl,cell_of hh 5 _ rfl⟩
  ·obtain rfl:=Option.some.inj hi;exact ⟨cell_of hh 6 _ rfl,cell_of hh 7 _ rfl⟩
  ·obtain rfl:=Option.some.inj hi;exact ⟨cell_of hh 8 _ rfl,cell_of hh 9 _ rfl⟩
  ·simp at hi
end Go.Proofs.YtofcogekgcgjhaaGreatDoor
namespace Go.Proofs.YtofcogekgcgjhaaGreatDoor
open Go.RowKit Go.Mine
def EnRel (rows:List Rw) (H:List UInt8) (P:Nat→Nat) (K:Nat→Prop) (w:World) (g:Nat) (i:Value) (wr:World):Prop:=
 ∃ j:Nat,j+g=rows.length∧i = .int .i64 j∧Wrs wr K 5 P (five H (tellT (rows.take j)).R (tellT (rows.take j)).E (tellT (rows.take j)).N (tellT (rows.take j)).B)∧(tellT (rows.take j)).B.length≤4194304∧Turned (fun b=>¬ K b) w wr
theorem ba_len (s:ByteArray):s.data.toList.length=s.size:=by simp
section
variable {w:World} {K:Nat→Prop} {P:Nat→Nat} {H R E N B:List UInt8}
theorem u8_f0 (h:Wrs w K 5 P (five H R E N B)) (v:Nat) (hv:v<256) (hL:H.length≤1000000) :
  Calls Tryz.prog 148 #[pt (P 0),.int .u8 v] w fun e w'=>e = .returned (.tuple #[])∧Wrs w' K 5 P (five (H ++ num v 1) R E N B)∧Turned (fun b=>¬ K b) w w':=by
 have:=u8_ws h 0 v (by decide) hv (by show H.length+1≤_;omega)
 rwa [five0]at this
theorem u16_f0 (h:Wrs w K 5 P (five H R E N B)) (v:Nat) (hv:v<65536) (hL:H.length≤1000000) :
  Calls Tryz.prog 146 #[pt (P 0),.int .u16 v] w fun e w'=>e = .returned (.tuple #[])∧Wrs w' K 5 P (five (H ++ num v 2) R E N B)∧Turned (fun b=>¬ K b) w w':=by
 have:=u16_ws h 0 v (by decide) hv (by show H.length+2≤_;omega)
 rwa [five0]at this
theorem u32_f0 (h:Wrs w K 5 P (five H R E N B)) (v:Nat) (hv:v<4294967296) (hL:H.length≤1000000) :
  Calls Tryz.prog 150 #[pt (P 0),.int .u32 v] w fun e w'=>e = .returned (.tuple #[])∧Wrs w' K 5 P (five (H ++ num v 4) R E N B)∧Turned (fun b=>¬ K b) w w':=by
 have:=u32_ws h 0 v (by decide) hv (by show H.length+4≤_;omega)
 rwa [five0]at this
theorem u32_f3 (h:Wrs w K 5 P (five H R E N B)) (v:Nat) (hv:v<4294967296) (hL:N.length≤1000000) :
  Calls Tryz.prog 150 #[pt (P 3),.int .u32 v] w fun e w'=>e = .returned (.tuple #[])∧Wrs w' K 5 P (five H R E (N ++ num v 4) B)∧Turned (fun b=>¬ K b) w w':=by
 have:=u32_ws h 3 v (by decide) hv (by show N.length+4≤_;omega)
 rwa [five3]at this
theorem raw_f4 (h:Wrs w K 5 P (five H R E N B)) (s:ByteArray) (hL:B.length+s.size≤1000000000) :
  Calls Tryz.prog 149 #[pt (P 4),.string s] w fun e w'=>e = .returned (.tuple #[])∧Wrs w' K 5 P (five H R E N (B ++ s.data.toList))∧Turned (fun b=>¬ K b) w w':=by
 refine (raw_ws h 4 s (by decide) (by show B.length+s.size≤_;omega)).mono fun e w' ⟨h1,h2,h3⟩=>⟨h1,h2.congr (fun _ _=>rfl) fun i hi=>(five4 _ _ _ _ _ _ i hi).symm,h3⟩
theorem row_f {S:Nat→Prop} (h:Wrs w K 5 P (five H R E N B)) (a:Option Addr) (cap:Nat) (r:Rw) (n:Int) (hi:Ints w S a cap r.par) (hg:goodR r n) (hn:n≤131072) (hS:∀ b,S b→K b) (h1:R.length≤1000000000) (h2:E.length≤1000000000) :
  Calls Tryz.prog 220 #[pt (P 1),pt (P 2),rowv a cap r] w fun e w'=>e = .returned (.tuple #[])∧Wrs w' K 5 P (five H (R ++ rowB r E.length) (E ++ edgeB r) N B)∧Turned (fun b=>¬ K b) w w':=by
 have:=row_any S a cap r n w hi hg hn h (by decide) hS h1 h2
 have e:upd (upd (five H R E N B) 2 (five H R E N B 2 ++ edgeB r)) 1 (five H R E N B 1 ++ rowB r (five H R E N B 2).length)=five H (R ++ rowB r E.length) (E ++ edgeB r) N B:=five_row _ _ _ _ _ _ _
 rwa [e]at this
end
set_option maxHeartbeats 4000000 in
theorem encode_any (S0:Nat→Prop) (a:Option Addr) (cap:Nat) (g:Gr) (w:World) (h0:RwIs w S0 a cap g.rows) (hok:GrOk g) :
  Calls Tryz.prog 132 #[grv a cap g] w fun e w'=>e = .returned (encG g)∧Turned (fun _=>False) w w':=by
 have h:=h0.bound
 obtain ⟨L,hL⟩:∃ L,L=g.rows.length:=⟨_,rfl⟩
 have HL:Hid (L=g.rows.length):=hL
 have hck:Calls Tryz.prog 219 #[.agg #[.int .i64 g.base,.int .i64 g.h,.int .i64 g.p,.int .i64 g.m,.int .u32 (g.seed:Nat),.slice a L cap]] (w.alloc (.cells #[.int .i64 g.base,.int .i64 g.h,.int .i64 g.p,.int .i64 g.m,.int .u32 (g.seed:Nat),.slice a L cap] 123)) fun e w'=>e = .returned (.int .i64 (grErr g:Nat))∧Turned (fun _=>False) (w.alloc (.cells #[.int .i64 g.base,.int .i64 g.h,.int .i64 g.p,.int .i64 g.m,.int .u32 (g.seed:Nat),.slice a L cap] 123)) w':=by
  rw [hL]
  exact check_any S0 a cap g _ (h0.turned (Turned.alloc (fun _=>False) w _) fun _ _ q=>q)
 unfold grv
 rw [←hL]
 by_cases hg:goodG g
 ·rw [grErr_yes hg] at hck
  have hgg:=hg
  obtain ⟨⟨n1,n2,n3⟩,⟨s1,s2,s3,s4,s5,s6⟩,hrows⟩:=hgg
  rw [←hL]at n3
  obtain ⟨bn,hbn⟩:∃ k:Nat,g.base=(k:Int):=⟨g.base.toNat,by omega⟩
  obtain ⟨hn,hhn⟩:∃ k:Nat,g.h=(k:Int):=⟨g.h.toNat,by omega⟩
  obtain ⟨pn,hpn⟩:∃ k:Nat,g.p=(k:Int):=⟨g.p.toNat,by omega⟩
  obtain ⟨mn,hmn⟩:∃ k:Nat,g.m=(k:Int):=⟨g.m.toNat,by omega⟩
  obtain ⟨sn,hsn⟩:∃ k,k=g.seed:=⟨_,rfl⟩
  have hseed:sn<4294967296:=by rw [hsn];exact hok.2.2.2.2
  have HH:Hid (headB g=num bn 4 ++ num L 4 ++ num hn 1 ++ num pn 1 ++ num mn 2 ++ num sn 4):=by
   have q:headB g=num bn 4 ++ num L 4 ++ num hn 1 ++ num pn 1 ++ num mn 2 ++ num sn 4:=by unfold headB;rw [hbn,hhn,hpn,hmn,←hL,←hsn];simp
   exact q
  have LONG:Hid (4194304<(tellT g.rows).B.length→encG g = .tuple #[.string ⟨#[]⟩,.int .i64 5]):=by
   have q:4194304<(tellT g.rows).B.length→encG g = .tuple #[.string ⟨#[]⟩,.int .i64 5]:=fun q=>by unfold encG;rw [if_pos (grErr_yes hg),if_pos q]
   exact q
  have WELL:Hid (¬ 4194304<(tellT g.rows).B.length→encG g=buildV (chunksG g)):=by
   have q:¬ 4194304<(tellT g.rows).B.length→encG g=buildV (chunksG g):=fun q=>by unfold encG;rw [if_pos (grErr_yes hg),if_neg q]
   exact q
  have CHK:Hid (chunksG g=[(1,⟨(headB g).toArray⟩),(2,⟨(tellT g.rows).R.toArray⟩),(3,⟨(tellT g.rows).E.toArray⟩),(4,⟨(tellT g.rows).N.toArray⟩),(5,⟨(tellT g.rows).B.toArray⟩)]):=rfl
  have GR:Hid (∀ (i:Nat) (r:Rw),g.rows[i]? = some r→goodR r ((bn:Int)+i)∧((bn:Int)+i)≤131072):=by
   have q:∀ (i:Nat) (r:Rw),g.rows[i]? = some r→goodR r ((bn:Int)+i)∧((bn:Int)+i)≤131072:=fun i r hr=>by
    rw [←hbn]
    refine ⟨hrows i r hr,?_⟩
    have:=(List.getElem?_eq_some_iff.1 hr).1
    omega
   exact q
  rw [hbn,hhn,hpn,hmn,←hsn]at hck ⊢
  have m1:((bn:Nat):Int) % 4294967296=(bn:Int):=by omega
  have m2:((L:Nat):Int) % 4294967296=(L:Int):=by omega
  have m3:((hn:Nat):Int) % 256=(hn:Int):=by omega
  have m4:((pn:Nat):Int) % 256=(pn:Int):=by omega
  have m5:((mn:Nat):Int) % 65536=(mn:Int):=by omega
  have NB:Hid (bn≤65536∧L≤65536∧hn≤16∧pn≤64∧mn≤512∧sn<4294967296):=(by omega:bn≤65536∧L≤65536∧hn≤16∧pn≤64∧mn≤512∧sn<4294967296)
  have HI:Hid (RwIs w (fun b=>b<w.heap.size) a cap g.rows):=h
  generalize encG g=EV at *
  generalize headB g=HB at *
  generalize chunksG g=CG at *
  generalize g.rows=rows at *
  clear hbn hhn hpn hmn hsn hL h h0 hok hg n1 n2 n3 s1 s2 s3 s4 s5 s6 hrows hseed
  go_enter Tryz.func132,Tryz.ntmps132
  go_wp2_with (first
   |(go_at_call 219;(with_reducible refine hck.mono ?_);rintro e w1 ⟨rfl,ht1⟩;have W1:Hid (w1.heap[w.heap.size]? = some (.cells #[.int .i64 (bn:Nat),.int .i64 (hn:Nat),.int .i64 (pn:Nat),.int .i64 (mn:Nat),.int .u32 (sn:Nat),.slice a L cap] 123 (0,0))∧Turned (fun _=>False) w w1):=⟨(ht1.block _ (by simp) fun q=>q).trans (heap_alloc_last w _),(Turned.alloc _ _ _).trans ht1 fun _ _ q=>q⟩;obtain ⟨P0,hP0⟩:∃ P0:Nat→Nat,P0=fun _=>0:=⟨_,rfl⟩;obtain ⟨F0,hF0⟩:∃ F0:Nat→List UInt8,F0=fun _=>[]:=⟨_,rfl⟩;clear hP0 hF0;have hn0:=newWriter_ws (Wrs.none w1 (fun b=>b<w1.heap.size) (fun _ q=>q) P0 F0);clear ht1)
   |(go_at_call 145;(with_reducible refine hn0.mono ?_);rintro e w2 ⟨rfl,hs2,ht2⟩;have W2:Hid (Turned (fun _=>False) w1 w2):=ht2;have hn1:=newWriter_ws hs2;clear hn0 hs2 ht2)
   |(go_at_call 145;(with_reducible refine hn1.mono ?_);rintro e w3 ⟨rfl,hs3,ht3⟩;have W3:Hid (Turned (fun _=>False) w1 w3):=W2.out.trans ht3 (fun _ _ q=>q);have hn2:=newWriter_ws hs3;clear hn1 hs3 ht3)
   |(go_at_call 145;(with_reducible refine hn2.mono ?_);rintro e w4 ⟨rfl,hs4,ht4⟩;have W4:Hid (Turned (fun _=>False) w1 w4):=W3.out.trans ht4 (fun _ _ q=>q);have hn3:=newWriter_ws hs4;clear hn2 hs4 ht4)
   |(go_at_call 145;(with_reducible refine hn3.mono ?_);rintro e w5 ⟨rfl,hs5,ht5⟩;have W5:Hid (Turned (fun _=>False) w1 w5):=W4.out.trans ht5 (fun _ _ q=>q);have hn4:=newWriter_ws hs5;clear hn3 hs5 ht5)
   |(go_at_call 145;(with_reducible refine hn4.mono ?_);rintro e w6 ⟨rfl,hs6,ht6⟩;have W6:Hid (Turned (fun _=>False) w1 w6):=W5.out.trans ht6 (fun _ _ q=>q);have HS6:Hid (Wrs w6 (fun b=>b<w1.heap.size) 5 (five w1.heap.size w2.heap.size w3.heap.size w4.heap.size w5.heap.size) (five [] [] [] [] [])):=hs6.congr (fun i hi=>(five_new _ _ _ _ _ P0 i hi).symm) (fun i hi=>(five_new _ _ _ _ _ F0 i hi).symm);have BX:Hid (∀ W,Turned (fun b=>¬ b<w1.heap.size) w6 W→W.heap[w.heap.size]? = some (.cells #[.int .i64 (bn:Nat),.int .i64 (hn:Nat),.int .i64 (pn:Nat),.int .i64 (mn:Nat),.int .u32 (sn:Nat),.slice a L cap] 123 (0,0))):=(fun W t=>((t.block _ (by have:=lt_of_block W1.out.1;have:=W6.out.size;omega) fun q=>q (lt_of_block W1.out.1)).trans (W6.out.block _ (lt_of_block W1.out.1) fun q=>q)).trans W1.out.1);have y0:=cell_of (BX.out w6 (Turned.refl _ _)) 0 _ rfl;have yl0:=lt_of_block (BX.out w6 (Turned.refl _ _));have hA1:Calls Tryz.prog 150 #[pt w1.heap.size,.int .u32 (bn:Nat)] w6 _:=u32_f0 HS6.out bn (by have:=NB.out;omega) (by decide);clear hn4 hs6 ht6)
   |(go_at_call 150;(with_reducible refine hA1.mono ?_);rintro e w7 ⟨rfl,hsw7,htw7⟩;have V7:Hid (Turned (fun b=>¬ b<w1.heap.size) w6 w7):=htw7;have y1:=cell_of (BX.out w7 V7.out) 5 _ rfl;have yl1:=lt_of_block (BX.out w7 V7.out);have hA2:Calls Tryz.prog 150 #[pt w1.heap.size,.int .u32 (L:Nat)] w7 _:=u32_f0 hsw7 L (by have:=NB.out;omega) (by simp [num_length]);clear hA1 hsw7 htw7)
   |(go_at_call 150;(with_reducible refine hA2.mono ?_);rintro e w8 ⟨rfl,hsw8,htw8⟩;have V8:Hid (Turned (fun b=>¬ b<w1.heap.size) w6 w8):=V7.out.trans htw8 (fun _ _ q=>q);have y2:=cell_of (BX.out w8 V8.out) 1 _ rfl;have yl2:=lt_of_block (BX.out w8 V8.out);have hA3:Calls Tryz.prog 148 #[pt w1.heap.size,.int .u8 (hn:Nat)] w8 _:=u8_f0 hsw8 hn (by have:=NB.out;omega) (by simp [num_length]);clear hA2 hsw8 htw8)
   |(go_at_call 148;(with_reducible refine hA3.mono ?_);rintro e w9 ⟨rfl,hsw9,htw9⟩;have V9:Hid (Turned (fun b=>¬ b<w1.heap.size) w6 w9):=V8.out.trans htw9 (fun _ _ q=>q);have y3:=cell_of (BX.out w9 V9.out) 2 _ rfl;have yl3:=lt_of_block (BX.out w9 V9.out);have hA4:Calls Tryz.prog 148 #[pt w1.heap.size,.int .u8 (pn:Nat)] w9 _:=u8_f0 hsw9 pn (by have:=NB.out;omega) (by simp [num_length]);clear hA3 hsw9 htw9)
   |(go_at_call 148;(with_reducible refine hA4.mono ?_);rintro e w10 ⟨rfl,hsw10,htw10⟩;have V10:Hid (Turned (fun b=>¬ b<w1.heap.size) w6 w10):=V9.out.trans htw10 (fun _ _ q=>q);have y4:=cell_of (BX.out w10 V10.out) 3 _ rfl;have yl4:=lt_of_block (BX.out w10 V10.out);have hA5:Calls Tryz.prog 146 #[pt w1.heap.size,.int .u16 (mn:Nat)] w10 _:=u16_f0 hsw10 mn (by have:=NB.out;omega) (by simp [num_length]);clear hA4 hsw10 htw10)
   |(go_at_call 146;(with_reducible refine hA5.mono ?_);rintro e w11 ⟨rfl,hsw11,htw11⟩;have V11:Hid (Turned (fun b=>¬ b<w1.heap.size) w6 w11):=V10.out.trans htw11 (fun _ _ q=>q);have y5:=cell_of (BX.out w11 V11.out) 4 _ rfl;have yl5:=lt_of_block (BX.out w11 V11.out);have hA6:Calls Tryz.prog 150 #[pt w1.heap.size,.int .u32 (sn:Nat)] w11 _:=u32_f0 hsw11 sn (by have:=NB.out;omega) (by simp [num_length]);clear hA5 hsw11 htw11)
   |(go_at_call 150;(with_reducible refine hA6.mono ?_);rintro e w12 ⟨rfl,hsw12,htw12⟩;have V12:Hid (Turned (fun b=>¬ b<w1.heap.size) w6 w12):=V11.out.trans htw12 (fun _ _ q=>q);have y6:=cell_of (BX.out w12 V12.out) 5 _ rfl;have yl6:=lt_of_block (BX.out w12 V12.out);have HS12:Hid (Wrs w12 (fun b=>b<w1.heap.size) 5 (five w1.heap.size w2.heap.size w3.heap.size w4.heap.size w5.heap.size) (five HB [] [] [] [])):=(by rw [HH.out];simpa only [List.nil_append] using hsw12:Wrs w12 (fun b=>b<w1.heap.size) 5 (five w1.heap.size w2.heap.size w3.heap.size w4.heap.size w5.heap.size) (five HB [] [] [] []));clear hA6 hsw12 htw12))
  have HS:Hid (EnRel rows HB (five w1.heap.size w2.heap.size w3.heap.size w4.heap.size w5.heap.size) (fun b=>b<w1.heap.size) w6 L (.int .i64 0) w12):=⟨0,by rw [HL.out,Nat.zero_add],rfl,HS12.out,by simp [tellT],V12.out⟩
  clear y0 y1 y2 y3 y4 y5 y6 yl0 yl1 yl2 yl3 yl4 yl5 yl6 hck
  go_loopg [56] L (fun g i wr=>EnRel rows HB (five w1.heap.size w2.heap.size w3.heap.size w4.heap.size w5.heap.size) (fun b=>b<w1.heap.size) w6 g i wr)
  case atStart=>exact HS.out
  case round=>
   obtain ⟨j,hjg,rfl,hws,hbl,htr⟩:=hrel
   have G:Hid (j+gk=rows.length):=hjg
   have T:Hid (Turned (fun b=>¬ b<w1.heap.size) w6 wr):=htr
   have BL:Hid ((tellT (rows.take j)).B.length≤4194304):=hbl
   have WS:Hid (Wrs wr (fun b=>b<w1.heap.size) 5 (five w1.heap.size w2.heap.size w3.heap.size w4.heap.size w5.heap.size) (five HB (tellT (rows.take j)).R (tellT (rows.take j)).E (tellT (rows.take j)).N (tellT (rows.take j)).B)):=hws
   have hz61:w1.heap.size≤wr.heap.size:=by have:=W6.out.size;have:=htr.size;omega
   have hLm:j+gk≤65536:=by have:=NB.out;have:=HL.out;omega
   clear hjg hws htr hbl HS
   by_cases hlt:j<L
   ·obtain ⟨r, hr⟩ : ∃ r, rows[j]? = some r := ⟨_, List.getElem?_eq_getElem (by rw [← HL.out]; exact hlt)⟩
    obtain ⟨hgr,hgn⟩:=GR.out j r hr
    have hrows16:∀ x∈rows.take j,x.par.length≤16:=fun x hx=>by
     obtain ⟨i,hi⟩:=List.getElem?_of_mem (List.mem_of_mem_take hx)
     exact (GR.out i x hi).1.1
    have hE:=tellT_E (rows.take j) hrows16
    have hR:=tellT_R (rows.take j)
    have hN:=tellT_N (rows.take j)
    have htk:(rows.take j).length≤65536:=by have:=NB.out;have:=HL.out;simp only [List.length_take];omega
    have hst:=tellT_take rows j r hr
    have hmono:=tellT_B_mono rows (j+1)
    have hbits:r.bits.size≤4096:=(goodF_state hgr.2.2.2.2.2.2).2.2
    obtain ⟨b,off,rfl,hS,hbw,ra,rcap,hints,c0,c1,c2,c3,c4⟩:=rows_at (((HI.out.turned W1.out.2 fun _ _ q=>q).turned W6.out fun _ _ q=>q).turned T.out fun b q z=>z (Nat.lt_of_lt_of_le q W1.out.2.size)) j r hr
    have hW2:=WS.out.turned ((Turned.alloc (fun _=>False) wr (.cells #[.slice ra r.par.length rcap,.int .i64 r.tree,.int .i64 r.gen,.int .i64 r.state,.string r.bits] 48)).mono fun _ _ q=>q.elim)
    have hz2:(wr.alloc (.cells #[.slice ra r.par.length rcap,.int .i64 r.tree,.int .i64 r.gen,.int .i64 r.state,.string r.bits] 48)).heap.size=wr.heap.size+1:=by simp
    have hrow:Calls Tryz.prog 220 #[pt w2.heap.size,pt w3.heap.size,rowv ra rcap r] _ _:=row_f hW2 ra rcap r _ (hints.turned (Turned.alloc (fun _=>False) wr _) fun _ _ q=>q) hgr hgn (fun b q=>.inl (Nat.lt_of_lt_of_le q W1.out.2.size)) (by omega) (by omega)
    have hbx:=heap_alloc_last wr (.cells #[.slice ra r.par.length rcap,.int .i64 r.tree,.int .i64 r.gen,.int .i64 r.state,.string r.bits] 48)
    have hcv:∀ W,Turned (fun b=>¬ (b<w1.heap.size∨(wr.heap.size≤b∧b<(wr.alloc (.cells #[.slice ra r.par.length rcap,.int .i64 r.tree,.int .i64 r.gen,.int .i64 r.state,.string r.bits] 48)).heap.size))) (wr.alloc (.cells #[.slice ra r.par.length rcap,.int .i64 r.tree,.int .i64 r.gen,.int .i64 r.state,.string r.bits] 48)) W→W.cell? ⟨wr.heap.size,4,none⟩=some (.string r.bits)∧wr.heap.size<W.heap.size:=fun W t=>by
     have h1:=(t.block wr.heap.size (by omega) fun q=>q (.inr ⟨Nat.le_refl _,by omega⟩)).trans hbx
     exact ⟨cell_of h1 4 _ rfl,lt_of_block h1⟩
    have hT:∀ W,Turned (fun b=>¬ (b<w1.heap.size∨(wr.heap.size≤b∧b<(wr.alloc (.cells #[.slice ra r.par.length rcap,.int .i64 r.tree,.int .i64 r.gen,.int .i64 r.state,.string r.bits] 48)).heap.size))) (wr.alloc (.cells #[.slice ra r.par.length rcap,.int .i64 r.tree,.int .i64 r.gen,.int .i64 r.state,.string r.bits] 48)) W→Turned (fun b=>¬ b<w1.heap.size) w6 W:=fun W t=>
     (T.out.new _).comp t fun b hb q=>q.elim id fun q z=>q (.inl z)
    have CV:Hid _:=Go.Lib.hid hcv
    have HT:Hid _:=Go.Lib.hid hT
    have SZ:Hid ((tellT (rows.take j)).N.length≤262144∧r.bits.size≤4096):=⟨by omega,hbits⟩
    generalize htt:tellT (rows.take j)=tt at *
    have ST:Hid (tellT (rows.take (j+1))=stepT tt r):=hst
    obtain ⟨lb,hlb⟩:∃ lb,lb=(tt.B ++ r.bits.data.toList).length:=⟨_,rfl⟩
    have hlbb:lb≤4198400:=by
     have:=BL.out
     rw [hlb,List.length_append]
     have e:=ba_len r.bits
     omega
    have hm:((lb:Nat):Int) % 4294967296=(lb:Int):=by omega
    have MONO:Hid (lb≤(tellT rows).B.length):=by
     have q:lb≤(tellT rows).B.length:=by rw [hst]at hmono;rw [hlb];exact hmono
     exact q
    have LB:Hid (lb=(tt.B ++ r.bits.data.toList).length∧lb≤4198400):=⟨hlb,hlbb⟩
    clear hr hgr hgn hrows16 hE hR hN htk hst hmono hbits hints hcv hT hbx hW2 hlb htt
    unfold rowv at hrow
    by_cases hlong:4194304<lb
    ·have d1 : decide ((4194304 : Int) < (lb : Int)) = true := decide_eq_true (by omega)
     have HEV:Hid (EV = .tuple #[.string ⟨#[]⟩,.int .i64 5]):=LONG.out (Nat.lt_of_lt_of_le hlong MONO.out)
     clear hlong
     go_wp2_with (first 
      |(go_at_call 220;(with_reducible refine hrow.mono ?_);rintro e u2 ⟨rfl,hsu,htu⟩;obtain ⟨yb,ybl⟩:=CV.out u2 htu;have U2:Hid _:=Go.Lib.hid htu;have hraw:Calls Tryz.prog 149 #[pt w5.heap.size,.string r.bits] u2 _:=raw_f4 hsu r.bits (by have:=BL.out;have:=SZ.out.2;omega);clear hsu htu hrow)
      |(go_at_call 149;(with_reducible refine hraw.mono ?_);rintro e u3 ⟨rfl,hsu,htu⟩;have U3:Hid _:=Go.Lib.hid (U2.out.trans htu (fun _ _ q=>q));have hlen:Calls Tryz.prog 221 #[pt w5.heap.size] u3 fun e w'=>e = .returned (.int .i64 (lb:Nat))∧u3=w':=(by rw [LB.out.1];exact len_ws hsu 4 (by decide));have hend:Calls Tryz.prog 150 #[pt w4.heap.size,.int .u32 (lb:Nat)] u3 _:=u32_f3 hsu lb (by have:=LB.out.2;omega) (by have:=SZ.out.1;omega);clear hsu htu hraw)
      |(go_at_call 221;(with_reducible refine hlen.mono ?_);rintro e ux ⟨rfl,rfl⟩)
      |(go_at_call 150;(with_reducible refine hend.mono ?_);rintro e u4 ⟨rfl,hsu,htu⟩;have U4:Hid _:=Go.Lib.hid (U3.out.trans htu (fun _ _ q=>q));have WU4:Hid _:=Go.Lib.hid hsu;have hlen4:Calls Tryz.prog 221 #[pt w5.heap.size] u4 fun e w'=>e = .returned (.int .i64 (lb:Nat))∧u4=w':=(by rw [LB.out.1];exact len_ws hsu 4 (by decide));clear hsu htu hend hlen)
      |(go_at_call 221;(with_reducible refine hlen4.mono ?_);rintro e ux ⟨rfl,rfl⟩))
     go_ret2
     exact ⟨by rw [HEV.out];rfl,W1.out.2.comp (W6.out.comp (HT.out u4 U4.out) (T:=fun b=>¬ b<w1.heap.size) fun b hb q=>q.elim (fun q=>q.elim) id) fun b hb q=>q.elim id fun q=>q (Nat.lt_of_lt_of_le hb W1.out.2.size)⟩
    ·have d1 : decide ((4194304 : Int) < (lb : Int)) = false := decide_eq_false (by omega)
     have HLN:Hid (lb≤4194304):=(by omega:lb≤4194304)
     clear hlong
     go_wp2_with (first 
      |(go_at_call 220;(with_reducible refine hrow.mono ?_);rintro e u2 ⟨rfl,hsu,htu⟩;obtain ⟨yb,ybl⟩:=CV.out u2 htu;have U2:Hid _:=Go.Lib.hid htu;have hraw:Calls Tryz.prog 149 #[pt w5.heap.size,.string r.bits] u2 _:=raw_f4 hsu r.bits (by have:=BL.out;have:=SZ.out.2;omega);clear hsu htu hrow)
      |(go_at_call 149;(with_reducible refine hraw.mono ?_);rintro e u3 ⟨rfl,hsu,htu⟩;have U3:Hid _:=Go.Lib.hid (U2.out.trans htu (fun _ _ q=>q));have hlen:Calls Tryz.prog 221 #[pt w5.heap.size] u3 fun e w'=>e = .returned (.int .i64 (lb:Nat))∧u3=w':=(by rw [LB.out.1];exact len_ws hsu 4 (by decide));have hend:Calls Tryz.prog 150 #[pt w4.heap.size,.int .u32 (lb:Nat)] u3 _:=u32_f3 hsu lb (by have:=LB.out.2;omega) (by have:=SZ.out.1;omega);clear hsu htu hraw)
      |(go_at_call 221;(with_reducible refine hlen.mono ?_);rintro e ux ⟨rfl,rfl⟩)
      |(go_at_call 150;(with_reducible refine hend.mono ?_);rintro e u4 ⟨rfl,hsu,htu⟩;have U4:Hid _:=Go.Lib.hid (U3.out.trans htu (fun _ _ q=>q));have WU4:Hid _:=Go.Lib.hid hsu;have hlen4:Calls Tryz.prog 221 #[pt w5.heap.size] u4 fun e w'=>e = .returned (.int .i64 (lb:Nat))∧u4=w':=(by rw [LB.out.1];exact len_ws hsu 4 (by decide));clear hsu htu hend hlen)
      |(go_at_call 221;(with_reducible refine hlen4.mono ?_);rintro e ux ⟨rfl,rfl⟩))
     go_roundg (gk - 1)
     case measure=>have:=G.out;have:=HL.out;omega
     case rel=>
      refine ⟨j+1,by have:=G.out;have:=HL.out;omega,by simp <;> omega,?_,by rw [ST.out];show (tt.B ++ r.bits.data.toList).length≤4194304;rw [←LB.out.1];exact HLN.out,HT.out u4 U4.out⟩
      rw [ST.out]
      show Wrs u4 _ 5 _ (five HB (tt.R ++ rowB r tt.E.length) (tt.E ++ edgeB r) (tt.N ++ num (tt.B ++ r.bits.data.toList).length 4) (tt.B ++ r.bits.data.toList))
      rw [←LB.out.1]
      exact WU4.out.mono fun b q=>.inl q
   ·have hj : rows.take j = rows := List.take_of_length_le (by have := HL.out; omega)
    have hws:=WS.out
    have hbl:=BL.out
    rw [hj]at hws hbl
    have HEV:Hid (EV=buildV CG):=WELL.out (by omega)
    have hrows16:∀ x∈rows,x.par.length≤16:=fun x hx=>by
     obtain ⟨i,hi⟩:=List.getElem?_of_mem hx
     exact (GR.out i x hi).1.1
    have hE:=tellT_E rows hrows16
    have hR:=tellT_R rows
    have hN:=tellT_N rows
    have hrl:rows.length≤65536:=by have:=NB.out;have:=HL.out;omega
    have b0:Calls Tryz.prog 151 #[pt w1.heap.size] wr fun e w'=>e = .returned (.string ⟨HB.toArray⟩)∧wr=w':=bytes_ws hws 0 (by decide)
    have b1:Calls Tryz.prog 151 #[pt w2.heap.size] wr fun e w'=>e = .returned (.string ⟨(tellT rows).R.toArray⟩)∧wr=w':=bytes_ws hws 1 (by decide)
    have b2:Calls Tryz.prog 151 #[pt w3.heap.size] wr fun e w'=>e = .returned (.string ⟨(tellT rows).E.toArray⟩)∧wr=w':=bytes_ws hws 2 (by decide)
    have b3:Calls Tryz.prog 151 #[pt w4.heap.size] wr fun e w'=>e = .returned (.string ⟨(tellT rows).N.toArray⟩)∧wr=w':=bytes_ws hws 3 (by decide)
    have b4:Calls Tryz.prog 151 #[pt w5.heap.size] wr fun e w'=>e = .returned (.string ⟨(tellT rows).B.toArray⟩)∧wr=w':=bytes_ws hws 4 (by decide)
    have hHB:HB.length≤100:=by rw [HH.out];simp [num_length]
    have hbu:Calls Tryz.prog 222 #[.slice (some ⟨wr.heap.size,0,none⟩) 5 5] (wr.alloc (.cells #[.int .u32 1,.string ⟨HB.toArray⟩,.int .u32 2,.string ⟨(tellT rows).R.toArray⟩,.int .u32 3,.string ⟨(tellT rows).E.toArray⟩,.int .u32 4,.string ⟨(tellT rows).N.toArray⟩,.int .u32 5,.string ⟨(tellT rows).B.toArray⟩] 285)) fun e w'=>e = .returned (buildV CG)∧Turned (fun _=>False) (wr.alloc (.cells #[.int .u32 1,.string ⟨HB.toArray⟩,.int .u32 2,.string ⟨(tellT rows).R.toArray⟩,.int .u32 3,.string ⟨(tellT rows).E.toArray⟩,.int .u32 4,.string ⟨(tellT rows).N.toArray⟩,.int .u32 5,.string ⟨(tellT rows).B.toArray⟩] 285)) w':=by
     rw [CHK.out]
     exact build_any _ _ _ _ (chIs_five wr ⟨HB.toArray⟩ ⟨(tellT rows).R.toArray⟩ ⟨(tellT rows).E.toArray⟩ ⟨(tellT rows).N.toArray⟩ ⟨(tellT rows).B.toArray⟩ ⟨by rw [ba_size];omega,by rw [ba_size];omega,by rw [ba_size];omega,by rw [ba_size];omega,by rw [ba_size];omega⟩)
    have hbv:∃ s e,buildV CG = .tuple #[.string s,.int .i64 e]:=by
     unfold buildV
     split
     ·exact ⟨_,_,rfl⟩
     ·exact ⟨_,_,rfl⟩
    obtain ⟨bs,be,hbv⟩:=hbv
    rw [hbv]at hbu HEV
    clear hj hws hbl hrows16 hE hR hN hrl hHB hbv CHK
    generalize (⟨HB.toArray⟩:ByteArray)=q0 at *
    generalize (⟨(tellT rows).R.toArray⟩:ByteArray)=q1 at *
    generalize (⟨(tellT rows).E.toArray⟩:ByteArray)=q2 at *
    generalize (⟨(tellT rows).N.toArray⟩:ByteArray)=q3 at *
    generalize (⟨(tellT rows).B.toArray⟩:ByteArray)=q4 at *
    go_wp2_with (first
     |(go_at_call 151;(with_reducible refine b0.mono ?_);rintro e v1 ⟨rfl,rfl⟩)
     |(go_at_call 151;(with_reducible refine b1.mono ?_);rintro e v1 ⟨rfl,rfl⟩)
     |(go_at_call 151;(with_reducible refine b2.mono ?_);rintro e v1 ⟨rfl,rfl⟩)
     |(go_at_call 151;(with_reducible refine b3.mono ?_);rintro e v1 ⟨rfl,rfl⟩)
     |(go_at_call 151;(with_reducible refine b4.mono ?_);rintro e v1 ⟨rfl,rfl⟩)
     |(go_at_call 222;(with_reducible refine hbu.mono ?_);rintro e v2 ⟨rfl,htv⟩))
    go_ret2
    exact ⟨by rw [HEV.out];rfl,W1.out.2.comp (W6.out.comp ((T.out.new _).comp htv (T:=fun b=>¬ b<w1.heap.size) fun b hb q=>q.elim id fun q=>q.elim) (T:=fun b=>¬ b<w1.heap.size) fun b hb q=>q.elim (fun q=>q.elim) id) fun b hb q=>q.elim id fun q=>q (Nat.lt_of_lt_of_le hb W1.out.2.size)⟩
 ·rw [grErr_no hg] at hck
  have HEV:Hid (encG g = .tuple #[.string ⟨#[]⟩,.int .i64 1]):=by
   have q:encG g = .tuple #[.string ⟨#[]⟩,.int .i64 1]:=by unfold encG;rw [if_neg (by rw [grErr_no hg];decide)]
   exact q
  generalize encG g=EV at *
  generalize g.base=x0 at *
  generalize g.h=x1 at *
  generalize g.p=x2 at *
  generalize g.m=x3 at *
  generalize g.seed=x4 at *
  clear h h0 hok hg hL HL
  go_enter Tryz.func132,Tryz.ntmps132
  go_wp2_with (go_at_call 219;(with_reducible refine hck.mono ?_);rintro e w1 ⟨rfl,ht1⟩)
  go_ret2
  exact ⟨by rw [HEV.out];rfl,(Turned.alloc _ _ _).trans ht1 fun _ _ q=>q⟩
end Go.Proofs.YtofcogekgcgjhaaGreatDoor
