/- Packed. -/
import Derived.Test.YtofcogekgcgjhaaGreatDoorZzbh
import Derived.Deep.RegionHeld3
set_option linter.unusedVariables false
set_option linter.unusedSimpArgs false
set_option maxRecDepth 100000
namespace Go.Proofs.YtofcogekgcgjhaaGreatDoor
open Go.RowKit Go.Mine Go.Mine.Ac
def FiRel (w:World) (V:World) (x:Ix) (n:Int) (g:Nat) (iv:Value) (wr:World):Prop:=
 ∃ i:Nat,i+g=x.graphs.length∧iv = .int .i64 (i:Nat)∧Ch.totLn (x.links.take i)≤n∧Turned (fun _=>False) V wr
def FiPost (w:World) (rl:Nat→Nat) (g:Gr) (r:Rw) (e:Ending) (w' : World):Prop:=
 ∃ a cap,e = .returned (.tuple #[rowv a cap r,stgv (stgOf g),.bool true])∧Ints w' (fun b=>rl b=4) a cap r.par∧Turned (fun _=>False) w w'
set_option maxHeartbeats 4000000 in
theorem xfind_some {w:World} {rl:Nat→Nat} {p:Nat} {dv lv gv:Value} {x:Ix} (h:IxAt w rl p dv lv gv x) (hok:IxOk x) (n:Int) {g0:Gr} {r0:Rw} (hf:findX x n=some (g0,r0)) :
  Calls Tryz.prog 59 #[pt p,.int .i64 n] w (FiPost w rl g0 r0):=by
 obtain ⟨Z,hZ⟩:∃ Z,Z=FiPost w rl g0 r0:=⟨_,rfl⟩
 have HZ:Hid (Z=FiPost w rl g0 r0):=hZ
 rw [←hZ]
 obtain ⟨hn0,hnl,-⟩:=findX_some hok hf
 obtain ⟨V,hV⟩:∃ V,V=(w.alloc (.cells #[.slice none 0 0,.int .i64 0,.int .i64 0,.int .i64 0,.string ⟨#[]⟩] 48)).alloc (.cells #[.int .i64 0,.int .i64 0,.int .i64 0,.int .u32 0] 24):=⟨_,rfl⟩
 have HVV:Hid (V=(w.alloc (.cells #[.slice none 0 0,.int .i64 0,.int .i64 0,.int .i64 0,.string ⟨#[]⟩] 48)).alloc (.cells #[.int .i64 0,.int .i64 0,.int .i64 0,.int .u32 0] 24)):=hV
 obtain ⟨t0,b1,b2⟩:=two_boxes (w:=w) (.cells #[.slice none 0 0,.int .i64 0,.int .i64 0,.int .i64 0,.string ⟨#[]⟩] 48) (.cells #[.int .i64 0,.int .i64 0,.int .i64 0,.int .u32 0] 24)
 rw [←hV]at t0 b1 b2
 have HL:Hid (Calls Tryz.prog 15 #[pt p] V fun e w'=>e = .returned (.int .i64 x.len)∧Turned (fun _=>False) V w'):=xlen_any (h.turned t0 fun _ _ z=>z) hok
 have HB:Hid (∀ W,Turned (fun _=>False) V W→W.heap[w.heap.size]? = some (.cells #[.slice none 0 0,.int .i64 0,.int .i64 0,.int .i64 0,.string ⟨#[]⟩] 48)∧W.heap[w.heap.size+1]? = some (.cells #[.int .i64 0,.int .i64 0,.int .i64 0,.int .u32 0] 24)):=fun W t=>⟨boxed b1 t id,boxed b2 t id⟩
 have HT0:Hid (Turned (fun _=>False) w V):=t0
 have HIX:Hid (∀ W,Turned (fun _=>False) V W→IxAt W rl p dv lv gv x):=fun W t=>(h.turned t0 fun _ _ z=>z).turned t fun _ _ z=>z
 have HOK:Hid (IxOk x):=hok
 have HRB:Hid (∀ b,rl b=4→b<w.heap.size):=fun b hb=>h.bnd b (by omega)
 have HF:Hid (findX x n=some (g0,r0)):=hf
 have HN:Hid (0≤n∧n<x.len):=⟨hn0,hnl⟩
 obtain ⟨ga,gc,hgv⟩:=h.graphs.len
 subst hgv
 obtain ⟨L,hL⟩:∃ L,L=x.graphs.length:=⟨_,rfl⟩
 have HLL:Hid (L=x.graphs.length∧L≤8):=⟨hL,by rw [hL,hok.both];exact hok.many⟩
 have HP2:Hid (∀ W,Turned (fun _=>False) V W→W.cell? ⟨p,2,none⟩=some (.slice ga L gc)∧p<W.heap.size):=fun W t=>by
  have hb:=((h.turned t0 fun _ _ z=>z).turned t fun _ _ z=>z).blk
  rw [hL]
  exact ⟨cell_of hb 2 _ rfl,lt_of_block hb⟩
 have e1:decide (0≤n)=true:=by simp [hn0]
 obtain ⟨XL,hXL⟩:∃ XL,XL=x.len:=⟨_,rfl⟩
 have HXL:Hid (XL=x.len):=hXL
 rw [←hXL]at HL
 have e2:decide (n<XL)=true:=by simp;omega
 clear hZ hV t0 b1 b2 h hok hf hn0 hnl hL hXL
 go_enter Tryz.func59,Tryz.ntmps59
 go_wp2_with fail
 rw [←HVV.out]
 go_wp2_with (go_at_call 15;(with_reducible refine HL.out.mono ?_);rintro e w1 ⟨rfl,q⟩;obtain ⟨p2,p3⟩:=HP2.out w1 q;replace q:Hid _:=hidS q)
 have B0:Hid (FiRel w V x n L (.int .i64 0) w1):=⟨0,by have:=HLL.out;omega,rfl,by simp only [List.take_zero,Ch.totLn];exact HN.out.1,q.out⟩
 go_loopg [22] L (fun g iv wr=>FiRel w V x n g iv wr)
 case atStart=>exact B0.out
 case round=>
  clear B0 p2 p3
  obtain ⟨i,hig,rfl,htot,ht⟩:=hrel
  have G:Hid (i+gk=x.graphs.length∧Ch.totLn (x.links.take i)≤n):=⟨hig,htot⟩
  have HT:Hid (Turned (fun _=>False) V wr):=ht
  by_cases hlt:i<L
  ·obtain ⟨g, hg⟩ : ∃ g, x.graphs[i]? = some g := ⟨_, List.getElem?_eq_getElem (by rw [← HLL.out.1]; exact hlt)⟩
   have HGI:Hid (x.graphs[i]? = some g):=hg
   obtain ⟨hbe,hbs⟩:=base_end HOK.out hg
   obtain ⟨b,off,cap,ra,rc,hga,hbl,hb3,c0,c1,c2,c3,c4,c5,gok,hrw⟩:=(HIX.out wr ht).graphs.at hg
   simp only [Value.slice.injEq]at hga
   obtain ⟨rfl,-,-⟩:=hga
   have hbr:b<wr.heap.size:=hbl
   have hb2:=tot_take HOK.out i
   have hb4:=tot_take HOK.out (i+1)
   obtain ⟨K,hK⟩:∃ K,K=g.rows.length:=⟨_,rfl⟩
   obtain ⟨B,hB⟩:∃ B,B=g.base:=⟨_,rfl⟩
   rw [←hK]at c5 hbe
   rw [←hB]at c0 hbe hbs
   have hw:wrap64 (B+(K:Int))=B+(K:Int):=by simp only [wrap64];omega
   obtain ⟨k1,k2⟩:=HB.out wr ht
   have x0:wr.cell? ⟨w.heap.size,0,none⟩=some (.slice none 0 0):=cell_of k1 0 _ rfl
   have x1:wr.cell? ⟨w.heap.size,1,none⟩=some (.int .i64 0):=cell_of k1 1 _ rfl
   have x2:wr.cell? ⟨w.heap.size,2,none⟩=some (.int .i64 0):=cell_of k1 2 _ rfl
   have x3:wr.cell? ⟨w.heap.size,3,none⟩=some (.int .i64 0):=cell_of k1 3 _ rfl
   have x4:wr.cell? ⟨w.heap.size,4,none⟩=some (.string ⟨#[]⟩):=cell_of k1 4 _ rfl
   have y0:wr.cell? ⟨w.heap.size+1,0,none⟩=some (.int .i64 0):=cell_of k2 0 _ rfl
   have y1:wr.cell? ⟨w.heap.size+1,1,none⟩=some (.int .i64 0):=cell_of k2 1 _ rfl
   have y2:wr.cell? ⟨w.heap.size+1,2,none⟩=some (.int .i64 0):=cell_of k2 2 _ rfl
   have y3:wr.cell? ⟨w.heap.size+1,3,none⟩=some (.int .u32 0):=cell_of k2 3 _ rfl
   have f0:=free_of k1 0
   have f1:=free_of k1 1
   have f2:=free_of k1 2
   have f3:=free_of k1 3
   have f4:=free_of k1 4
   have g0':=free_of k2 0
   have g1':=free_of k2 1
   have g2':=free_of k2 2
   have g3':=free_of k2 3
   have l1:=lt_of_block k1
   have l2:=lt_of_block k2
   by_cases hin:n<B+(K:Int)
   ·have d1 : decide (n < B + (K : Int)) = true := by simp [hin]
    obtain ⟨r,hr,hfx⟩:=findX_at HOK.out hg htot (by rw [←hB,←hK];exact hin)
    rw [HF.out]at hfx
    simp only [Option.some.injEq,Prod.mk.injEq]at hfx
    obtain ⟨rfl,rfl⟩:=hfx
    obtain ⟨k,hk⟩:∃ k,k=(n - g0.base).toNat:=⟨_,rfl⟩
    rw [←hk]at hr
    have hkn:n - B=(k:Int):=by rw [hk,←hB];omega
    have hkK:k<K:=by rw [hK];exact (List.getElem?_eq_some_iff.1 hr).1
    obtain ⟨rb,ro,rfl,hr4,hrl,pa,pcap,hints,r1,r2,r3,r4,r5⟩:=rows_at hrw k r0 hr
    obtain ⟨hw1,hw2⟩:=wrap_nat k (by omega)
    have hs1:wrap64 (n - B)=(k:Int):=by rw [hkn];exact hw1
    have hs2:IntKind.i64.wrap (n - B)=(k:Int):=by rw [hkn];exact hw2
    have hrbw:rb<w.heap.size:=HRB.out rb hr4
    have hne1:¬ rb=w.heap.size:=by omega
    have hne2:¬ rb=w.heap.size+1:=by omega
    have hne3:¬ rb=wr.heap.size:=by omega
    have hne4:¬ w.heap.size=rb:=by omega
    have hne5:¬ w.heap.size+1=rb:=by omega
    have hne6:¬ wr.heap.size=w.heap.size:=by omega
    have hne7:¬ wr.heap.size=w.heap.size+1:=by omega
    have hne8:¬ w.heap.size=wr.heap.size:=by omega
    have hne9:¬ w.heap.size+1=wr.heap.size:=by omega
    have HI:Hid (Ints wr (fun b=>rl b=4) pa pcap r0.par∧B=g0.base):=⟨hints,hB⟩
    clear hk hkn hw1 hw2 hr hin hbe hbs hb2 hb4 hK hB hg hig htot hrw gok k1 k2 hb3 hbl hints hr4
    go_upto_region 6 with (fail)
    obtain ⟨W1,hW1⟩:∃ W1,W1=wr.alloc (.cells #[.int .i64 B,.int .i64 g0.h,.int .i64 g0.p,.int .i64 g0.m,.int .u32 (g0.seed:Nat),.slice (some ⟨rb,ro,none⟩) K rc] 123):=⟨_,rfl⟩
    rw [←hW1]
    have t1:Turned (fun _=>False) wr W1:=by rw [hW1];exact Turned.alloc _ _ _
    have zz:W1.heap[wr.heap.size]? = some (.cells #[.int .i64 B,.int .i64 g0.h,.int .i64 g0.p,.int .i64 g0.m,.int .u32 (g0.seed:Nat),.slice (some ⟨rb,ro,none⟩) K rc] 123):=by rw [hW1];exact Go.Mine.heap_alloc_new _ _
    have z0:W1.cell? ⟨wr.heap.size,0,none⟩=some (.int .i64 B):=cell_of zz 0 _ rfl
    have z1:W1.cell? ⟨wr.heap.size,1,none⟩=some (.int .i64 g0.h):=cell_of zz 1 _ rfl
    have z2:W1.cell? ⟨wr.heap.size,2,none⟩=some (.int .i64 g0.p):=cell_of zz 2 _ rfl
    have z3:W1.cell? ⟨wr.heap.size,3,none⟩=some (.int .i64 g0.m):=cell_of zz 3 _ rfl
    have z4:W1.cell? ⟨wr.heap.size,4,none⟩=some (.int .u32 (g0.seed:Nat)):=cell_of zz 4 _ rfl
    have z5:W1.cell? ⟨wr.heap.size,5,none⟩=some (.slice (some ⟨rb,ro,none⟩) K rc):=cell_of zz 5 _ rfl
    have zl:=lt_of_block zz
    replace r1:=cell_at r1 t1 id
    replace r2:=cell_at r2 t1 id
    replace r3:=cell_at r3 t1 id
    replace r4:=cell_at r4 t1 id
    replace r5:=cell_at r5 t1 id
    have hrl1:rb<W1.heap.size:=Nat.lt_of_lt_of_le hrl t1.size
    have HT1:Hid (Turned (fun _=>False) V W1∧Turned (fun _=>False) wr W1):=⟨HT.out.trans t1 fun _ _ z=>z,t1⟩
    obtain ⟨k1,k2⟩:=HB.out W1 HT1.out.1
    replace x0:=cell_at x0 t1 id
    replace x1:=cell_at x1 t1 id
    replace x2:=cell_at x2 t1 id
    replace x3:=cell_at x3 t1 id
    replace x4:=cell_at x4 t1 id
    replace y0:=cell_at y0 t1 id
    replace y1:=cell_at y1 t1 id
    replace y2:=cell_at y2 t1 id
    replace y3:=cell_at y3 t1 id
    clear f0 f1 f2 f3 f4 g0' g1' g2' g3' l1 l2 c0 c1 c2 c3 c4 c5 hbr hrl zz hW1 t1
    have f0:=free_of k1 0
    have f1:=free_of k1 1
    have f2:=free_of k1 2
    have f3:=free_of k1 3
    have f4:=free_of k1 4
    have g0':=free_of k2 0
    have g1':=free_of k2 1
    have g2':=free_of k2 2
    have g3':=free_of k2 3
    have l1:=lt_of_block k1
    have l2:=lt_of_block k2
    clear k1 k2
    go_region_held3 (fun W=>W.cell? ⟨wr.heap.size,0,none⟩=some (.int .i64 B)∧W.cell? ⟨wr.heap.size,1,none⟩=some (.int .i64 g0.h)∧W.cell? ⟨wr.heap.size,2,none⟩=some (.int .i64 g0.p)∧W.cell? ⟨wr.heap.size,3,none⟩=some (.int .i64 g0.m)∧W.cell? ⟨wr.heap.size,4,none⟩=some (.int .u32 (g0.seed:Nat))∧W.cell? ⟨wr.heap.size,5,none⟩=some (.slice (some ⟨rb,ro,none⟩) K rc)∧W.cell? ⟨rb,ro+k * 5,none⟩=some (.slice pa r0.par.length pcap)∧W.cell? ⟨rb,ro+k * 5+1,none⟩=some (.int .i64 r0.tree)∧W.cell? ⟨rb,ro+k * 5+2,none⟩=some (.int .i64 r0.gen)∧W.cell? ⟨rb,ro+k * 5+3,none⟩=some (.int .i64 r0.state)∧W.cell? ⟨rb,ro+k * 5+4,none⟩=some (.string r0.bits)) (go_keep) (fail)
    go_wp2
    refine bodyPost_ret (v:=.tuple #[rowv pa pcap r0,stgv (stgOf g0),.bool true]) (by simp [results,Tryz.results59,go_sem,x0,x1,x2,x3,x4,y0,y1,y2,y3,f0,f1,f2,f3,f4,g0',g1',g2',g3',l1,l2,stgOf]) rfl ?_
    rw [HZ.out]
    have l0:w.heap.size≤w.heap.size:=Nat.le_refl _
    have l1' : w.heap.size≤w.heap.size+1:=Nat.le_succ _
    have tA:Turned (fun b=>w.heap.size≤b) wr W1:=HT1.out.2.mono fun _ _ z=>z.elim
    have tB:Turned (fun _=>False) w W1:=HT0.out.trans HT1.out.1 fun _ _ z=>z
    refine ⟨pa,pcap,rfl,HI.out.1.turned (T:=fun b=>w.heap.size≤b) ?_ fun b hb z=>by have:=HRB.out b hb;omega,?_⟩
    ·exact (((((((((tA.set (p:=⟨w.heap.size,0,none⟩) l0 _).set (p:=⟨w.heap.size,1,none⟩) l0 _).set (p:=⟨w.heap.size,2,none⟩) l0 _).set (p:=⟨w.heap.size,3,none⟩) l0 _).set (p:=⟨w.heap.size,4,none⟩) l0 _).set (p:=⟨w.heap.size+1,0,none⟩) l1' _).set (p:=⟨w.heap.size+1,1,none⟩) l1' _).set (p:=⟨w.heap.size+1,2,none⟩) l1' _).set (p:=⟨w.heap.size+1,3,none⟩) l1' _).draw
    ·exact (((((((((tB.fresh l0 _).fresh l0 _).fresh l0 _).fresh l0 _).fresh l0 _).fresh l1' _).fresh l1' _).fresh l1' _).fresh l1' _).draw
   ·have d1 : decide (n < B + (K : Int)) = false := by simp; omega
    have HE:Hid (Ch.totLn (x.links.take (i+1))≤n):=hidS (by omega)
    clear hin hbe hbs hb2 hb4 hK hB hg hig htot ht hrw gok k1 k2 hb3 hbl
    go_wp2
    go_roundg (gk - 1)
    case measure=>have:=G.out;have:=HLL.out;omega
    case rel=>exact ⟨i+1,by have:=G.out;have:=HLL.out;omega,by have:=HLL.out;simp [wrap64];omega,HE.out,HT.out.new _⟩
  ·exfalso
   have h1:=HN.out.2
   have h2:i=x.graphs.length:=by have:=HLL.out.1;omega
   rw [len_take HOK.out,←h2]at h1
   omega
def RoPost (w:World) (r:Rw) (e:Ending) (w' : World):Prop:=
 ∃ a cap,e = .returned (.tuple #[rowv a cap r,.bool true])∧Sl w' (fun b=>w.heap.size≤b) 3 1 (.slice a r.par.length cap) (ic r.par) r.par.length∧Turned (fun _=>False) w w'
set_option maxHeartbeats 2000000 in
theorem xrow_some {w:World} {rl:Nat→Nat} {p:Nat} {dv lv gv:Value} {x:Ix} (h:IxAt w rl p dv lv gv x) (hok:IxOk x) (n:Int) {g:Gr} {r:Rw} (hf:findX x n=some (g,r)) :
  Calls Tryz.prog 20 #[pt p,.int .i64 n] w (RoPost w r):=by
 obtain ⟨Z,hZ⟩:∃ Z,Z=RoPost w r:=⟨_,rfl⟩
 have HZ:Hid (Z=RoPost w r):=hZ
 rw [←hZ]
 obtain ⟨-,-,i,k,hi,hk,-⟩:=findX_some hok hf
 have hpl:r.par.length≤16:=((hok.graph i g hi).1.2.2 k r hk).1
 obtain ⟨V,hV⟩:∃ V,V=w.alloc (.cells #[.slice none 0 0,.int .i64 0,.int .i64 0,.int .i64 0,.string ⟨#[]⟩] 48):=⟨_,rfl⟩
 have HVV:Hid (V=w.alloc (.cells #[.slice none 0 0,.int .i64 0,.int .i64 0,.int .i64 0,.string ⟨#[]⟩] 48)):=hV
 have tV:Turned (fun _=>False) w V:=by rw [hV];exact Turned.alloc _ _ _
 have xV:V.heap[w.heap.size]? = some (.cells #[.slice none 0 0,.int .i64 0,.int .i64 0,.int .i64 0,.string ⟨#[]⟩] 48):=by rw [hV];exact heap_alloc_new _ _
 have HF:=xfind_some (h.turned tV fun _ _ z=>z) hok n hf
 unfold FiPost at HF
 have TV:Hid (Turned (fun _=>False) w V):=tV
 have HVL:Hid (w.heap.size<V.heap.size):=lt_of_block xV
 have HXV:Hid (∀ W,Turned (fun _=>False) V W→W.heap[w.heap.size]? = some (.cells #[.slice none 0 0,.int .i64 0,.int .i64 0,.int .i64 0,.string ⟨#[]⟩] 48)):=fun W t=>boxed xV t id
 have HC:Hid (∀ (W w1:World) a cap,Ints w1 (fun b=>rl b=4) a cap r.par→Turned (fun _=>False) w w1→Turned (fun _=>False) w1 W→Calls Tryz.prog 65 #[.slice a r.par.length cap] W fun e w'=>∃ a' c',e = .returned (.slice a' r.par.length c')∧Sl w' (fun b=>W.heap.size≤b) 3 1 (.slice a' r.par.length c') (ic r.par) r.par.length∧Turned (fun _=>False) w w'∧Turned (fun _=>False) W w'):=fun W w1 a cap hi t t2=>by
  have hi2:=hi.turned t2 fun _ _ z=>z
  refine (clone_ints W (fun w' t'=>ints_src (hi2.turned t' fun _ _ z=>z)) (fun q=>by subst q;exact ints_nil hi2) (by omega)).mono fun e w' ⟨v,x1,x2,x3⟩=>?_
  obtain ⟨a',c',rfl,-,-⟩:=x2.value
  have tt:=t.trans t2 fun _ _ z=>z
  exact ⟨a',c',x1,x2,tt.trans x3 fun _ _ z=>z,x3⟩
 clear hZ h hok hf hi hk hV tV xV
 go_enter Tryz.func20,Tryz.ntmps20
 go_wp2_with fail
 rw [←HVV.out]
 go_wp2_with (first|(go_at_call 59;(with_reducible refine HF.mono ?_);rintro e w1 ⟨a,cap,rfl,hin,q⟩;have P1:Hid _:=hidS (And.intro hin q);clear hin q)|(go_at_call 65;(with_reducible refine (HC.out _ w1 a cap P1.out.1 (TV.out.trans P1.out.2 fun _ _ z=>z) ((Turned.alloc _ _ _).new _)).mono ?_);rintro e2 w2 ⟨a2,c2,rfl,hs2,ht2,hu2⟩;obtain ⟨tt,kb1,-⟩:=two_boxes (w:=w1) (.cells #[.slice a r.par.length cap,.int .i64 r.tree,.int .i64 r.gen,.int .i64 r.state,.string r.bits] 48) (.cells #[.int .i64 (stgOf g).h,.int .i64 (stgOf g).p,.int .i64 (stgOf g).m,.int .u32 ((stgOf g).seed:Nat)] 24);have kb:=boxed kb1 hu2 id;have kx:=HXV.out w2 ((P1.out.2.trans tt fun _ _ z=>z).trans hu2 fun _ _ z=>z);have c0:w2.cell? ⟨w1.heap.size,0,none⟩=some (.slice a r.par.length cap):=cell_of kb 0 _ rfl;have c1:w2.cell? ⟨w1.heap.size,1,none⟩=some (.int .i64 r.tree):=cell_of kb 1 _ rfl;have c2' : w2.cell? ⟨w1.heap.size,2,none⟩=some (.int .i64 r.gen):=cell_of kb 2 _ rfl;have c3:w2.cell? ⟨w1.heap.size,3,none⟩=some (.int .i64 r.state):=cell_of kb 3 _ rfl;have c4:w2.cell? ⟨w1.heap.size,4,none⟩=some (.string r.bits):=cell_of kb 4 _ rfl;have f0:=free_of kb 0;have lb:=lt_of_block kb;have x0:w2.cell? ⟨w.heap.size,0,none⟩=some (.slice none 0 0):=cell_of kx 0 _ rfl;have x1:w2.cell? ⟨w.heap.size,1,none⟩=some (.int .i64 0):=cell_of kx 1 _ rfl;have x2:w2.cell? ⟨w.heap.size,2,none⟩=some (.int .i64 0):=cell_of kx 2 _ rfl;have x3:w2.cell? ⟨w.heap.size,3,none⟩=some (.int .i64 0):=cell_of kx 3 _ rfl;have x4:w2.cell? ⟨w.heap.size,4,none⟩=some (.string ⟨#[]⟩):=cell_of kx 4 _ rfl;have g0:=free_of kx 0;have g1:=free_of kx 1;have g2:=free_of kx 2;have g3:=free_of kx 3;have g4:=free_of kx 4;have lx:=lt_of_block kx;have ne1:¬ w1.heap.size=w.heap.size:=(by have:=P1.out.2.size;have:=HVL.out;omega);have ne2:¬ w.heap.size=w1.heap.size:=(fun z=>ne1 z.symm);have P2:Hid _:=hidS (And.intro hs2 (And.intro ht2 (And.intro hu2 (P1.out.2.size))));clear hs2 ht2 hu2 tt kb1 kb kx))
 refine bodyPost_ret (v:=.tuple #[rowv a2 c2 r,.bool true]) (by simp [results,Tryz.results20,go_sem,x0,x1,x2,x3,x4,g0,g1,g2,g3,g4,lx,lb,ne1,ne2]) rfl ?_
 rw [HZ.out]
 obtain ⟨hs2,ht2,hu2,hz2⟩:=P2.out
 have l0:w.heap.size≤w.heap.size:=Nat.le_refl _
 have l1:w.heap.size≤w1.heap.size:=by have:=HVL.out;omega
 refine ⟨a2,c2,rfl,(hs2.turned (T:=fun b=>b=w1.heap.size∨b=w.heap.size) ?_ fun b hb z=>?_).widen fun b hb=>?_,?_⟩
 ·exact ((((((Turned.refl (fun b=>b=w1.heap.size∨b=w.heap.size) w2).set (p:=⟨w1.heap.size,0,none⟩) (.inl rfl) _).set (p:=⟨w.heap.size,0,none⟩) (.inr rfl) _).set (p:=⟨w.heap.size,1,none⟩) (.inr rfl) _).set (p:=⟨w.heap.size,2,none⟩) (.inr rfl) _).set (p:=⟨w.heap.size,3,none⟩) (.inr rfl) _).set (p:=⟨w.heap.size,4,none⟩) (.inr rfl) _
 ·have := HVL.out
  simp at hb
  omega
 ·simp at hb
  omega
 ·exact (((((ht2.fresh l1 _).fresh l0 _).fresh l0 _).fresh l0 _).fresh l0 _).fresh l0 _
set_option maxHeartbeats 2000000 in
theorem xmay_some {w:World} {rl:Nat→Nat} {p:Nat} {dv lv gv:Value} {x:Ix} (h:IxAt w rl p dv lv gv x) (hok:IxOk x) (n:Int) (path:ByteArray) (hs:path.size≤1000000000) {g:Gr} {r:Rw} (hf:findX x n=some (g,r)) :
  Calls Tryz.prog 17 #[pt p,.int .i64 n,.string path] w fun e w'=>e = .returned (.bool (mayF (stgOf g) (fltOf r) path))∧Turned (fun _=>False) w w':=by
 obtain ⟨-,-,i,k,hi,hk,-⟩:=findX_some hok hf
 have hsd:g.seed<4294967296:=by
  obtain ⟨_,_,_,_,_,_,_,_,_,_,_,_,_,_,gok,_⟩:=h.graphs.at hi
  exact gok.2.2.2.2
 have hbs:r.bits.size≤4096:=goodF_size ((hok.graph i g hi).1.2.2 k r hk).2.2.2.2.2.2
 have HF:=xfind_some h hok n hf
 unfold FiPost at HF
 have HM:Hid (∀ W,Calls Tryz.prog 60 #[stgv (stgOf g),.agg #[.int .i64 r.state,.string r.bits],.string path] W fun e w'=>e = .returned (.bool (mayF (stgOf g) (fltOf r) path))∧Turned (fun _=>False) W w'):=fun W=>bmay_any (stgOf g) (fltOf r) path W hsd hs (by unfold fltOf;simp only;omega)
 generalize mayF (stgOf g) (fltOf r) path=bb at *
 clear h hok hf hi hk hsd hbs hs
 go_enter Tryz.func17,Tryz.ntmps17
 go_wp2_with (first|(go_at_call 59;(with_reducible refine HF.mono ?_);rintro e w1 ⟨a,cap,rfl,-,q⟩;replace q:Hid _:=hidS q)|(go_at_call 60;(with_reducible refine (HM.out _).mono ?_);rintro e w2 ⟨rfl,q2⟩;replace q2:Hid _:=hidS q2))
 go_ret
 exact ⟨rfl,((q.out.new _).new _).trans q2.out fun _ _ z=>z⟩
def RnPost (w:World) (e:Ending) (w' : World):Prop:=
 ∃ a cap,e = .returned (.tuple #[.agg #[.slice a 0 cap,.int .i64 0,.int .i64 0,.int .i64 0,.string ⟨#[]⟩],.bool false])∧Turned (fun _=>False) w w'
set_option maxHeartbeats 2000000 in
theorem xrow_nil (n:Int) (w:World):Calls Tryz.prog 20 #[.pointer none,.int .i64 n] w (RnPost w):=by
 obtain ⟨Z,hZ⟩:∃ Z,Z=RnPost w:=⟨_,rfl⟩
 have HZ:Hid (Z=RnPost w):=hZ
 rw [←hZ]
 obtain ⟨V,hV⟩:∃ V,V=w.alloc (.cells #[.slice none 0 0,.int .i64 0,.int .i64 0,.int .i64 0,.string ⟨#[]⟩] 48):=⟨_,rfl⟩
 have HVV:Hid (V=w.alloc (.cells #[.slice none 0 0,.int .i64 0,.int .i64 0,.int .i64 0,.string ⟨#[]⟩] 48)):=hV
 have tV:Turned (fun _=>False) w V:=by rw [hV];exact Turned.alloc _ _ _
 have xV:V.heap[w.heap.size]? = some (.cells #[.slice none 0 0,.int .i64 0,.int .i64 0,.int .i64 0,.string ⟨#[]⟩] 48):=by rw [hV];exact heap_alloc_new _ _
 have HF:=xfind_nil n V
 have TV:Hid (Turned (fun _=>False) w V):=tV
 have HVL:Hid (w.heap.size<V.heap.size):=lt_of_block xV
 have HXV:Hid (∀ W,Turned (fun _=>False) V W→W.heap[w.heap.size]? = some (.cells #[.slice none 0 0,.int .i64 0,.int .i64 0,.int .i64 0,.string ⟨#[]⟩] 48)):=fun W t=>boxed xV t id
 have HC:Hid (∀ W,Turned (fun _=>False) V W→Calls Tryz.prog 65 #[.slice none 0 0] W fun e w'=>∃ a' c',e = .returned (.slice a' 0 c')∧Sl w' (fun b=>W.heap.size≤b) 3 1 (.slice a' 0 c') [] 0∧Turned (fun _=>False) V w'∧Turned (fun _=>False) W w'):=fun W t=>by
  refine (clone_ints (xs:=[]) W (fun w' t'=>Src.ofNil _ Tryz.underlying41 0) (fun _=>rfl) (by omega)).mono fun e w' ⟨v,x1,x2,x3⟩=>?_
  obtain ⟨a',c',rfl,-,-⟩:=x2.value
  exact ⟨a',c',x1,x2,t.trans x3 fun _ _ z=>z,x3⟩
 clear hZ hV tV xV
 go_enter Tryz.func20,Tryz.ntmps20
 go_wp2_with fail
 rw [←HVV.out]
 go_wp2_with (first|(go_at_call 59;(with_reducible refine HF.mono ?_);rintro e w1 ⟨rfl,q⟩;have P1:Hid _:=hidS q;clear q)|(go_at_call 65;(with_reducible refine (HC.out _ ((P1.out.new _).new _)).mono ?_);rintro e2 w2 ⟨a2,c2,rfl,hs2,ht2,hu2⟩;obtain ⟨tt,kb1,-⟩:=two_boxes (w:=w1) (.cells #[.slice none 0 0,.int .i64 0,.int .i64 0,.int .i64 0,.string ⟨#[]⟩] 48) (.cells #[.int .i64 0,.int .i64 0,.int .i64 0,.int .u32 0] 24);have kb:=boxed kb1 hu2 id;have kx:=HXV.out w2 ((P1.out.trans tt fun _ _ z=>z).trans hu2 fun _ _ z=>z);have c0:w2.cell? ⟨w1.heap.size,0,none⟩=some (.slice none 0 0):=cell_of kb 0 _ rfl;have c1:w2.cell? ⟨w1.heap.size,1,none⟩=some (.int .i64 0):=cell_of kb 1 _ rfl;have c2' : w2.cell? ⟨w1.heap.size,2,none⟩=some (.int .i64 0):=cell_of kb 2 _ rfl;have c3:w2.cell? ⟨w1.heap.size,3,none⟩=some (.int .i64 0):=cell_of kb 3 _ rfl;have c4:w2.cell? ⟨w1.heap.size,4,none⟩=some (.string ⟨#[]⟩):=cell_of kb 4 _ rfl;have f0:=free_of kb 0;have lb:=lt_of_block kb;have x0:w2.cell? ⟨w.heap.size,0,none⟩=some (.slice none 0 0):=cell_of kx 0 _ rfl;have x1:w2.cell? ⟨w.heap.size,1,none⟩=some (.int .i64 0):=cell_of kx 1 _ rfl;have x2:w2.cell? ⟨w.heap.size,2,none⟩=some (.int .i64 0):=cell_of kx 2 _ rfl;have x3:w2.cell? ⟨w.heap.size,3,none⟩=some (.int .i64 0):=cell_of kx 3 _ rfl;have x4:w2.cell? ⟨w.heap.size,4,none⟩=some (.string ⟨#[]⟩):=cell_of kx 4 _ rfl;have g0:=free_of kx 0;have g1:=free_of kx 1;have g2:=free_of kx 2;have g3:=free_of kx 3;have g4:=free_of kx 4;have lx:=lt_of_block kx;have ne1:¬ w1.heap.size=w.heap.size:=(by have:=P1.out.size;have:=HVL.out;omega);have ne2:¬ w.heap.size=w1.heap.size:=(fun z=>ne1 z.symm);have P2:Hid _:=hidS (And.intro hs2 (And.intro ht2 (And.intro hu2 (P1.out.size))));clear hs2 ht2 hu2 tt kb1 kb kx))
 refine bodyPost_ret (v:=.tuple #[.agg #[.slice a2 0 c2,.int .i64 0,.int .i64 0,.int .i64 0,.string ⟨#[]⟩],.bool false]) (by simp [results,Tryz.results20,go_sem,x0,x1,x2,x3,x4,g0,g1,g2,g3,g4,lx,lb,ne1,ne2]) rfl ?_
 rw [HZ.out]
 obtain ⟨hs2,ht2,hu2,hz2⟩:=P2.out
 have l0:w.heap.size≤w.heap.size:=Nat.le_refl _
 have l1:w.heap.size≤w1.heap.size:=by have:=HVL.out;omega
 refine ⟨a2,c2,rfl,?_⟩
 have ht3:=TV.out.trans ht2 fun _ _ z=>z
 exact (((((ht3.fresh l1 _).fresh l0 _).fresh l0 _).fresh l0 _).fresh l0 _).fresh l0 _
end Go.Proofs.YtofcogekgcgjhaaGreatDoor
