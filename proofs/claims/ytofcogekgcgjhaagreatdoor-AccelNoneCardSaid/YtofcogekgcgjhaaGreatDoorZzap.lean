/- Packed. -/
import Derived.Test.YtofcogekgcgjhaaGreatDoorZzan
import Derived.Test.YtofcogekgcgjhaaGreatDoorZzao
set_option linter.unusedVariables false
set_option linter.unusedSimpArgs false
set_option maxRecDepth 100000
namespace Go.Proofs.YtofcogekgcgjhaaGreatDoor
open Go.RowKit Go.Mine
def finR:Option (List Ch)→Except Nat (List Ch)
 |none=>.error 3
 |some l=>.ok l
def parseR (t:ByteArray):Except Nat (List Ch):=
 if 4194304<t.size then .error 5
 else if t.size<10 then .error 2
 else if t.extract 0 5≠⟨#[80,68,71,67,1]⟩ then .error 3
 else if (rdNum (t.extract (t.size - 4) t.size) (0,0) 4).1≠Crc.sum (nums (t.extract 0 (t.size - 4))) then .error 4
 else finR (progT (t.extract 5 (t.size - 4)))
def ParsePost (w:World) (r:Except Nat (List Ch)) (e:Ending) (w' : World):Prop:=
 Turned (fun _=>False) w w'∧match r with
  | .error k=>e = .returned (.tuple #[.slice none 0 0,.int .i64 (k:Nat)])
  | .ok l=>∃ v,e = .returned (.tuple #[v,.int .i64 0])∧Sl w' (fun b=>w.heap.size≤b) 285 2 v (ccells l) l.length
set_option maxHeartbeats 4000000 in
theorem parse_any (t:ByteArray) (w:World) (hs:t.size≤4611686018427387904):Calls Tryz.prog 215 #[.string t] w (ParsePost w (parseR t)):=by
 by_cases h1:4194304<t.size
 ·have hd : decide ((4194304 : Int) < (t.size : Int)) = true := by simp; omega
  have hd2:decide (4194304<t.size)=true:=by simp;omega
  have HR:Hid (parseR t = .error 5):=by
   have:parseR t = .error 5:=by unfold parseR;rw [if_pos h1]
   exact this
  rw [HR.out]
  clear hs h1
  go_enter Tryz.func215,Tryz.ntmps215
  go_wp2
  go_ret2
  exact ⟨Turned.refl _ _,rfl⟩
 have hd:decide ((4194304:Int)<(t.size:Int))=false:=by simp;omega
 have hd2:decide (4194304<t.size)=false:=by simp;omega
 by_cases h2:t.size<10
 ·have hd3 : decide ((t.size : Int) < 10) = true := by simp; omega
  have hd4:decide (t.size<10)=true:=by simp;omega
  have HR:Hid (parseR t = .error 2):=by
   have:parseR t = .error 2:=by unfold parseR;rw [if_neg h1,if_pos h2]
   exact this
  rw [HR.out]
  clear hs h1 h2
  go_enter Tryz.func215,Tryz.ntmps215
  go_wp2
  go_ret2
  exact ⟨Turned.refl _ _,rfl⟩
 have hd3:decide ((t.size:Int)<10)=false:=by simp;omega
 have hd4:decide (t.size<10)=false:=by simp;omega
 have hw:wrap64 ((t.size:Int) - 4)=((t.size - 4:Nat):Int):=by simp [wrap64];omega
 have hsl1:∀ W,(Instr.slice 9 (.string t) none (some (.int .i64 5)) none).run Tryz.prog W = .ok (.string (t.extract 0 5)) W:=fun W=>by
  have:=run_slice_string_h (P:=Tryz.prog) W 9 t Tryz.underlying9 .i64 5 (by omega) (by omega)
  exact this
 by_cases h3:t.extract 0 5=⟨#[80,68,71,67,1]⟩
 ·rw [h3] at hsl1
  have hsl2:∀ W,(Instr.slice 9 (.string t) (some (.int .i64 (wrap64 ((t.size:Int) - 4)))) none none).run Tryz.prog W = .ok (.string (t.extract (t.size - 4) t.size)) W:=fun W=>by
   rw [hw]
   have:=run_slice_string_l (P:=Tryz.prog) W 9 t Tryz.underlying9 .i64 ((t.size - 4:Nat):Int) (by omega) (by omega)
   rw [Int.toNat_natCast]at this
   exact this
  have hsl3:∀ W,(Instr.slice 9 (.string t) none (some (.int .i64 (wrap64 ((t.size:Int) - 4)))) none).run Tryz.prog W = .ok (.string (t.extract 0 (t.size - 4))) W:=fun W=>by
   rw [hw]
   have:=run_slice_string_h (P:=Tryz.prog) W 9 t Tryz.underlying9 .i64 ((t.size - 4:Nat):Int) (by omega) (by omega)
   rw [Int.toNat_natCast]at this
   exact this
  have hsl4:∀ W,(Instr.slice 9 (.string t) (some (.int .i64 5)) (some (.int .i64 (wrap64 ((t.size:Int) - 4)))) none).run Tryz.prog W = .ok (.string (t.extract 5 (t.size - 4))) W:=fun W=>by
   rw [hw]
   have:=run_slice_string (P:=Tryz.prog) W 9 t .i64 .i64 5 ((t.size - 4:Nat):Int) Tryz.underlying9 (by omega) (by omega) (by omega)
   rw [Int.toNat_natCast]at this
   exact this
  have z2:(t.extract (t.size - 4) t.size).size≤4611686018427387904:=by rw [ByteArray.size_extract];omega
  have z3:(t.extract 0 (t.size - 4)).size≤4611686018427387904:=by rw [ByteArray.size_extract];omega
  have z4:(t.extract 5 (t.size - 4)).size≤4611686018427387904:=by rw [ByteArray.size_extract];omega
  have hp:parseR t=if (rdNum (t.extract (t.size - 4) t.size) (0,0) 4).1≠Crc.sum (nums (t.extract 0 (t.size - 4))) then .error 4 else finR (progT (t.extract 5 (t.size - 4))):=by
   unfold parseR
   rw [if_neg h1,if_neg h2,if_neg (by simp [h3])]
  have hsum:=fun W=>sum_one (W:World).heap.size 0 1 (t.extract 0 (t.size - 4)) (W.alloc (.cells #[.string (t.extract 0 (t.size - 4))] 9)) (cell_of (heap_alloc_last W _) 0 _ rfl) (by simp) z3
  have hu:=fun (W:World) (p:Nat) (h:RdIs W p (t.extract (t.size - 4) t.size) (0,0))=>u32_r h (Nat.zero_le _) z2
  have ht:=fun (W:World) (p:Nat) (h:RdIs W p (t.extract 5 (t.size - 4)) (0,0))=>table_any h z4
  unfold NumPost at hu
  unfold TabPost at ht
  have hq:(rdNum (t.extract (t.size - 4) t.size) (0,0) 4).1<4294967296:=rdNum_lt _ _ 4
  have hcs:=crcsum_lt (t.extract 0 (t.size - 4))
  generalize rdNum (t.extract (t.size - 4) t.size) (0,0) 4=q at *
  generalize progT (t.extract 5 (t.size - 4))=r at *
  generalize Crc.sum (nums (t.extract 0 (t.size - 4)))=cs at *
  generalize t.extract (t.size - 4) t.size=s2 at *
  generalize t.extract 0 (t.size - 4)=s3 at *
  generalize t.extract 5 (t.size - 4)=s4 at *
  have HP:Hid (parseR t=if q.1≠cs then .error 4 else finR r):=hp
  have HU:Hid (∀ (W:World) (p:Nat),RdIs W p s2 (0,0)→Calls Tryz.prog 123 #[pt p] W _):=hu
  have HT:Hid (∀ (W:World) (p:Nat),RdIs W p s4 (0,0)→Calls Tryz.prog 287 #[pt p] W _):=ht
  have hn:=newReader_any s2 w
  clear hu ht hp hs h1 h2 h3 hw z2 z3 z4
  by_cases hqc:q.1=cs
  ·have hd5 : ((q.1 : Int) == (cs : Int)) = true := by simp; omega
   have hpr:=HP.out
   rw [if_neg (by simp [hqc])]at hpr
   have HPR:Hid (parseR t=finR r):=hpr
   rw [hpr]
   clear hpr hq hcs hqc HP
   go_enter Tryz.func215,Tryz.ntmps215
   go_wp2_with (first
    |(go_at_call 122;(with_reducible refine hn.mono ?_);rintro e w1 ⟨rfl,hr1,ht1,hz1⟩;have h60:=HU.out w1 _ hr1;have Z1:Hid (Turned (fun _=>False) w w1∧w1.heap.size=w.heap.size+1):=⟨ht1,hz1⟩;clear hr1 ht1 hz1 hn)
    |(go_at_call 123;(with_reducible refine h60.mono ?_);rintro e w2 ⟨rfl,hr2,ht2⟩;have Z2:Hid (Turned (fun _=>False) w w2):=Z1.out.1.comp ht2 (fun i hi q=>q.elim (fun q=>q) (fun q=>by omega));have h47:=hsum w2;clear hr2 ht2 h60)
    |(go_at_call 124;(with_reducible refine h47.mono ?_);rintro e w3 ⟨rfl,ht3⟩;have Z3:Hid (Turned (fun _=>False) w w3):=Z2.out.trans ((Turned.alloc (fun _=>False) w2 _).trans ht3 fun _ _ q=>q) (fun _ _ q=>q);have hn3:=newReader_any s4 w3;clear ht3 h47)
    |(go_at_call 122;(with_reducible refine hn3.mono ?_);rintro e w4 ⟨rfl,hr4,ht4,hz4⟩;have h61:=HT.out w4 _ hr4;have Z4:Hid (Turned (fun _=>False) w w4∧w4.heap.size=w3.heap.size+1):=⟨Z3.out.trans ht4 (fun _ _ q=>q),hz4⟩;clear hr4 ht4 hz4 hn3))
   refine h61.mono ?_
   have hz:=Z3.out.size
   have hz4:=Z4.out.2
   rintro e w5 ⟨ht5,⟨hr,rfl⟩|⟨l,v,hr,rfl,hsl⟩⟩
   ·have T5 : Hid (Turned (fun _ => False) w w5) := Z4.out.1.comp ht5 (fun i hi q => q.elim (fun q => q) fun q => by omega)
    subst hr
    clear ht5 h61
    go_wp2
    go_ret2
    exact ⟨T5.out,rfl⟩
   ·have T5 : Hid (Turned (fun _ => False) w w5) := Z4.out.1.comp ht5 (fun i hi q => q.elim (fun q => q) fun q => by omega)
    have L5:Hid (Sl w5 (fun b=>w.heap.size≤b) 285 2 v (ccells l) l.length):=hsl.widen fun b q=>by omega
    subst hr
    clear ht5 h61
    obtain ⟨a,cap,rfl,-,-⟩:=hsl.value
    clear hsl
    go_wp2
    go_ret2
    exact ⟨T5.out,_,rfl,L5.out⟩
  ·have hd5 : ((q.1 : Int) == (cs : Int)) = false := by simp; omega
   have hpr:=HP.out
   rw [if_pos hqc]at hpr
   rw [hpr]
   clear hpr hq hcs hqc HP
   go_enter Tryz.func215,Tryz.ntmps215
   go_wp2_with (first
    |(go_at_call 122;(with_reducible refine hn.mono ?_);rintro e w1 ⟨rfl,hr1,ht1,hz1⟩;have h60:=HU.out w1 _ hr1;have Z1:Hid (Turned (fun _=>False) w w1∧w1.heap.size=w.heap.size+1):=⟨ht1,hz1⟩;clear hr1 ht1 hz1 hn)
    |(go_at_call 123;(with_reducible refine h60.mono ?_);rintro e w2 ⟨rfl,hr2,ht2⟩;have Z2:Hid (Turned (fun _=>False) w w2):=Z1.out.1.comp ht2 (fun i hi q=>q.elim (fun q=>q) (fun q=>by omega));have h47:=hsum w2;clear hr2 ht2 h60)
    |(go_at_call 124;(with_reducible refine h47.mono ?_);rintro e w3 ⟨rfl,ht3⟩;have Z3:Hid (Turned (fun _=>False) w w3):=Z2.out.trans ((Turned.alloc (fun _=>False) w2 _).trans ht3 fun _ _ q=>q) (fun _ _ q=>q);clear ht3 h47))
   go_ret2
   exact ⟨Z3.out,rfl⟩
 ·have HR : Hid (parseR t = .error 3) := by
   have:parseR t = .error 3:=by unfold parseR;rw [if_neg h1,if_neg h2,if_pos h3]
   exact this
  rw [HR.out]
  generalize t.extract 0 5=m at *
  have hne:=ba_ne m [80,68,71,67,1] h3
  clear hs h1 h2 hw h3
  go_enter Tryz.func215,Tryz.ntmps215
  go_wp2
  go_ret2
  exact ⟨Turned.refl _ _,rfl⟩
def V1 (w:World) (p:Nat) (s:ByteArray) (st:Nat×Nat) (c:Nat) (g:Nat) (lv sv i:Value) (wr:World):Prop:=
 ∃ (k:Nat) (S1 S2:Nat→Prop),k+g=c∧i = .int .i64 k∧Sl wr S1 285 2 lv (ccells (bare (tabK s st k).1)) k ∧
  Sl wr S2 3 1 sv (icells (tabK s st k).1) k∧RrIs wr p s (tabK s st k).2∧Turned (· = p) w wr∧Apart w wr S1 S2
def V2 (w:World) (p:Nat) (s:ByteArray) (st:Nat×Nat) (t:List (Nat×Nat)) (lv sv:Value) (g:Nat) (i:Value) (wr:World):Prop:=
 ∃ (k:Nat) (S1 S2:Nat→Prop),k+g=t.length∧i = .int .i64 k∧Sl wr S1 285 2 lv (ccells ((dat s st (t.take k)).1 ++ bare (t.drop k))) t.length ∧
  Sl wr S2 3 1 sv (icells t) t.length∧RrIs wr p s (dat s st (t.take k)).2∧Turned (· = p) w wr∧Apart w wr S1 S2
def V3 (w:World) (l:List Ch) (g:Nat) (i:Value) (wr:World):Prop:=
 ∃ k:Nat,(k+g=l.length∨(k=1∧g=0∧l.length=0))∧1≤k∧i = .int .i64 k∧(∀ i a b,i+1<k→l[i]? = some a→l[i+1]? = some b→a.1<b.1)∧Turned (fun _=>False) w wr
theorem info61:(Tryz.prog.info? 48).map (fun i=>(i.zero,i.size,i.bytes))=some (some (.agg #[.slice none 0 0,.int .i64 0,.int .i64 0,.int .i64 0,.string ⟨#[]⟩]),5,64):=by kernel_rfl
def ncells (l:List Int):List Value:=l.map fun x=>Value.int .i64 x
theorem src_row (w:World) (v:Value) (rt rg rs:Int) (rb:ByteArray) (hv:v.oneCell'=true):Src Tryz.prog 5 121 (.slice (some ⟨w.heap.size,0,none⟩) 1 1) 1 [v,.int .i64 rt,.int .i64 rg,.int .i64 rs,.string rb] (w.alloc (.cells #[v,.int .i64 rt,.int .i64 rg,.int .i64 rs,.string rb] 48)):=by
 refine Src.ofSlice _ Tryz.underlying121 ⟨w.heap.size,0,none⟩ 1 1 _ rfl (fun k u hk=>?_) (fun u hu=>?_)
 ·rw [Addr.add_lit, Nat.zero_add]
  exact cell_of (heap_alloc_last w _) k u (by simpa using hk)
 ·simp only [List.mem_cons, List.not_mem_nil, or_false] at hu
  rcases hu with rfl|rfl|rfl|rfl|rfl
  ·exact hv
  all_goals rfl
theorem must32_ok (v:Nat) (w:World):Calls Tryz.prog 290 #[.int .u32 (v:Nat),.int .i64 0] w fun e w'=>e = .returned (.int .u32 (v:Nat))∧w=w':=by
 go_enter Tryz.func290,Tryz.ntmps290
 go_wp2
 go_ret
 exact ⟨rfl,rfl⟩
theorem must8_ok (v:Nat) (w:World):Calls Tryz.prog 291 #[.int .u8 (v:Nat),.int .i64 0] w fun e w'=>e = .returned (.int .u8 (v:Nat))∧w=w':=by
 go_enter Tryz.func291,Tryz.ntmps291
 go_wp2
 go_ret
 exact ⟨rfl,rfl⟩
theorem must16_ok (v:Nat) (w:World):Calls Tryz.prog 292 #[.int .u16 (v:Nat),.int .i64 0] w fun e w'=>e = .returned (.int .u16 (v:Nat))∧w=w':=by
 go_enter Tryz.func292,Tryz.ntmps292
 go_wp2
 go_ret
 exact ⟨rfl,rfl⟩
theorem mustS_ok (v:ByteArray) (w:World):Calls Tryz.prog 295 #[.string v,.int .i64 0] w fun e w'=>e = .returned (.string v)∧w=w':=by
 go_enter Tryz.func295,Tryz.ntmps295
 go_wp2
 go_ret
 exact ⟨rfl,rfl⟩
theorem u16_r {w:World} {p:Nat} {s:ByteArray} {st:Nat×Nat} (h:RdIs w p s st) (hat:st.1≤s.size) (hs:s.size≤4611686018427387904):Calls Tryz.prog 293 #[pt p] w (NumPost w p s st 2 .u16):=by
 have hr:Calls Tryz.prog 206 #[pt p,.int .i64 2] w (NumPost w p s st 2 .u64):=fixed_r 2 h hat hs (by omega)
 have hlt:=rdNum_lt s st 2
 unfold NumPost at hr ⊢
 generalize rdNum s st 2=q at *
 have hw:IntKind.u16.wrap (q.1:Int)=(q.1:Int):=by simp [IntKind.wrap,IntKind.bits,IntKind.signed];omega
 have HW:Hid (IntKind.u16.wrap (q.1:Int)=(q.1:Int)):=hw
 clear h hat hs hlt hw
 go_enter Tryz.func293,Tryz.ntmps293
 go_wp2_with (go_at_call 206;(with_reducible refine hr.mono ?_);rintro e w1 ⟨rfl,hrd,ht⟩)
 go_ret2
 exact ⟨by rw [HW.out];rfl,hrd,ht⟩
def datC (l:List Ch) (id:Nat):ByteArray:=match findCh l id with|some c=>c.2|none=>⟨#[]⟩
theorem data_any (a:Option Addr) (cap:Nat) (l:List Ch) (id:Nat) (w:World) (h:ChIs w a cap l) :
  Calls Tryz.prog 288 #[.slice a l.length cap,.int .u32 (id:Nat)] w fun e w'=>∃ p,e = .returned (pt p)∧w.heap.size≤p∧RdIs w' p (datC l id) (0,0)∧Turned (fun _=>False) w w':=by
 have hf:=find_any a cap l id w h
 have hn:=fun W=>newReader_any (datC l id) W
 obtain ⟨s,b,hV,hs⟩:∃ s b,foundV (findCh l id) = .tuple #[.string s,.bool b]∧s=datC l id:=⟨_,_,rfl,rfl⟩
 rw [hV]at hf
 rw [←hs]at hn ⊢
 generalize l.length=L at *
 clear h hV hs
 go_enter Tryz.func288,Tryz.ntmps288
 go_wp2_with (first
  |(go_at_call 289;(with_reducible refine hf.mono ?_);rintro e w1 ⟨rfl,ht1⟩;have T1:Hid (Turned (fun _=>False) w w1):=ht1;clear ht1)
  |(go_at_call 122;(with_reducible refine (hn _).mono ?_);rintro e w2 ⟨rfl,hr,ht2,-⟩;have T2:Hid (RdIs w2 w1.heap.size s (0,0)∧Turned (fun _=>False) w1 w2):=⟨hr,ht2⟩;clear hr ht2))
 go_ret
 exact ⟨_,rfl,T1.out.size,T2.out.1,T1.out.trans T2.out.2 fun _ _ q=>q⟩
def parLoop (s:ByteArray):Nat→List Int→Nat×Nat→Option (List Int)
 |0,_,_=>none
 |k+1,l,st=>if (rdNum s st 4).2.2≠0 then none else if 2147483648≤(rdNum s st 4).1 then some (l ++ [(((rdNum s st 4).1 % 2147483648:Nat):Int)]) else parLoop s k (l ++ [(((rdNum s st 4).1 % 2147483648:Nat):Int)]) (rdNum s st 4).2
def progPar (first second:Nat) (edges:ByteArray):Option (List Int):=
 if second=4294967295 then some (if first=4294967295 then [] else [(first:Int)])
 else if second<2147483648 then some ((if first=4294967295 then [] else [(first:Int)]) ++ [(second:Int)])
 else if edges.size<4 * (second - 2147483648) then none
 else parLoop (edges.extract (4 * (second - 2147483648)) edges.size) (17 - (if first=4294967295 then ([]:List Int) else [(first:Int)]).length) (if first=4294967295 then [] else [(first:Int)]) (0,0)
def fld (s:ByteArray) (p n:Nat):Nat:=unnum (s.extract p (p+n)).data.toList
theorem fld_lt (s:ByteArray) (p n:Nat) (h:p+n≤s.size):fld s p n<256 ^ n:=by
 have:=rdNum_lt s (p,0) n
 unfold rdNum at this
 rw [rdRaw_good s p n h]at this
 exact this
theorem rdNum_fld (s:ByteArray) (p n:Nat) (h:p+n≤s.size):rdNum s (p,0) n=(fld s p n,(p+n,0)):=by
 unfold rdNum
 rw [rdRaw_good s p n h]
 rfl
def progRow (cA cE cN cB:ByteArray) (j last:Nat):Option (Rw×Nat):=
 if cA.size<15 * j+15 then none else
 match progPar (fld cA (15 * j+4) 4) (fld cA (15 * j+8) 4) cE with
 |none=>none
 |some par=>
  if cN.size<4 * j+4 then none else if fld cN (4 * j) 4<last then none else if cB.size<fld cN (4 * j) 4 then none else
  some (⟨par,fld cA (15 * j) 4,fld cA (15 * j+12) 2,fld cA (15 * j+14) 1,cB.extract last (fld cN (4 * j) 4)⟩,fld cN (4 * j) 4)
def progRows (cA cE cN cB:ByteArray):Nat→Nat→Nat→List Rw→Option (List Rw)
 |0,_,_,l=>some l
 |k+1,j,last,l=>match progRow cA cE cN cB j last with
  |none=>none
  |some (r,nx)=>progRows cA cE cN cB k (j+1) nx (l ++ [r])
def progR (l:List Ch):Option Gr:=
 if (datC l 1).size<16 then none else
 (progRows (datC l 2) (datC l 3) (datC l 4) (datC l 5) (fld (datC l 1) 4 4) 0 0 []).map fun rows=>⟨fld (datC l 1) 0 4,fld (datC l 1) 8 1,fld (datC l 1) 9 1,fld (datC l 1) 10 2,fld (datC l 1) 12 4,rows⟩
theorem numOk {w:World} {p:Nat} {s:ByteArray} {a n:Nat} {k:IntKind} {F:Nat} (v a2:Nat) (h:Calls Tryz.prog F #[pt p] w (NumPost w p s (a,0) n k)) (hle:a+n≤s.size) (hv:v=fld s a n) (ha:a2=a+n) :
  Calls Tryz.prog F #[pt p] w fun e w'=>e = .returned (.tuple #[.int k (v:Nat),.int .i64 0])∧RdIs w' p s (a2,0)∧Turned (· = p) w w':=by
 subst hv
 subst ha
 refine h.mono ?_
 rintro e w' ⟨h1,h2,h3⟩
 rw [rdNum_fld s a n hle]at h1 h2
 exact ⟨h1,h2,h3⟩
theorem rawOk {w:World} {p:Nat} {s:ByteArray} {a:Nat} (n:Nat) (b:ByteArray) (h:RdIs w p s (a,0)) (hle:a+n≤s.size) (hs:s.size≤4611686018427387904) (hb:b=s.extract a (a+n)) :
  Calls Tryz.prog 284 #[pt p,.int .i64 (n:Nat)] w fun e w'=>e = .returned (.tuple #[.string b,.int .i64 0])∧RdIs w' p s (a+n,0)∧Turned (· = p) w w':=by
 subst hb
 refine (raw_r n h (by simp only;omega) hs (by omega)).mono ?_
 rintro e w' ⟨h1,h2,h3⟩
 rw [rdRaw_good s a n hle]at h1 h2
 exact ⟨h1,h2,h3⟩
end Go.Proofs.YtofcogekgcgjhaaGreatDoor
namespace Go.Proofs.YtofcogekgcgjhaaGreatDoor.Ch
open Go.RowKit Go.Mine
def lnK (s:ByteArray) (st:Nat×Nat):Nat→List Ln×(Nat×Nat)
 |0=>([],st)
 |k+1=>((lnK s st k).1 ++ [(((rdNum s (lnK s st k).2 4).1:Int),((rdNum s (rdNum s (lnK s st k).2 4).2 4).1:Int),(rdNum s (rdNum s (rdNum s (lnK s st k).2 4).2 4).2 4).1)],
   (rdNum s (rdNum s (rdNum s (lnK s st k).2 4).2 4).2 4).2)
theorem lnK_length (s:ByteArray) (st:Nat×Nat) (k:Nat):(lnK s st k).1.length=k:=by
 induction k with
 |zero=>rfl
 |succ k ih=>simp [lnK,ih]
theorem rdNum_at (s:ByteArray) (st:Nat×Nat) (n:Nat) (h:st.1≤s.size):(rdNum s st n).2.1≤s.size:=rdRaw_at s st n h
theorem lnK_at (s:ByteArray) (st:Nat×Nat) (k:Nat) (h:st.1≤s.size):(lnK s st k).2.1≤s.size:=by
 induction k with
 |zero=>exact h
 |succ k ih=>exact rdNum_at _ _ _ (rdNum_at _ _ _ (rdNum_at _ _ _ ih))
theorem lnK_lt (s:ByteArray) (st:Nat×Nat) (k:Nat):∀ x∈(lnK s st k).1,I64 x.1∧I64 x.2.1∧x.2.2<4294967296:=by
 induction k with
 |zero=>intro e h;simp [lnK]at h
 |succ k ih=>
  intro e h
  rw [lnK,List.mem_append]at h
  rcases h with h|h
  ·exact ih e h
  ·rw [List.mem_singleton] at h
   subst h
   have h1:=rdNum_lt s (lnK s st k).2 4
   have h2:=rdNum_lt s (rdNum s (lnK s st k).2 4).2 4
   have h3:=rdNum_lt s (rdNum s (rdNum s (lnK s st k).2 4).2 4).2 4
   unfold I64
   refine ⟨⟨by simp only;omega,by simp only;omega⟩,⟨by simp only;omega,by simp only;omega⟩,h3⟩
def progL (s:ByteArray):Option (List Ln):=
 if (lnK s (rdNum s (0,0) 1).2 (rdNum s (0,0) 1).1).2.2≠0∨(lnK s (rdNum s (0,0) 1).2 (rdNum s (0,0) 1).1).2.1<s.size then none
 else if lnErr (lnK s (rdNum s (0,0) 1).2 (rdNum s (0,0) 1).1).1≠0 then none
 else some (lnK s (rdNum s (0,0) 1).2 (rdNum s (0,0) 1).1).1
def lcells:List Ln→List Value
 | []=>[]
 |x :: l=>.int .i64 x.1 :: .int .i64 x.2.1 :: .int .u32 (x.2.2:Nat) :: lcells l
theorem lcells_append (a b:List Ln):lcells (a ++ b)=lcells a ++ lcells b:=by
 induction a with
 |nil=>rfl
 |cons c a ih=>simp [lcells,ih]
theorem lcells_get:∀ (l:List Ln) (i:Nat) (x:Ln),l[i]? = some x→(lcells l)[i * 3]? = some (.int .i64 x.1)∧(lcells l)[i * 3+1]? = some (.int .i64 x.2.1)∧(lcells l)[i * 3+2]? = some (.int .u32 (x.2.2:Nat))
 | [],i,c,h=>by simp at h
 |d :: l,0,c,h=>by simp at h;subst h;simp [lcells]
 |d :: l,i+1,c,h=>by
  have:=lcells_get l i c (by simpa using h)
  have e1:(i+1) * 3=i * 3+1+1+1:=by omega
  have e2:(i+1) * 3+1=i * 3+1+1+1+1:=by omega
  have e3:(i+1) * 3+2=i * 3+2+1+1+1:=by omega
  rw [e3,e2,e1]
  simp only [lcells,List.getElem?_cons_succ]
  exact this
theorem lcells_one (l:List Ln):∀ u∈lcells l,u.oneCell'=true:=by
 induction l with
 |nil=>intro u hu;simp [lcells]at hu
 |cons x l ih=>
  intro u hu
  simp only [lcells,List.mem_cons]at hu
  rcases hu with rfl|rfl|rfl|hu
  ·rfl
  ·rfl
  ·rfl
  ·exact ih u hu
theorem src_ln (x:Ln) (w:World):Src Tryz.prog 3 113 (.slice (some ⟨w.heap.size,0,none⟩) 1 1) 1 (lcells [x]) (w.alloc (.cells #[.int .i64 x.1,.int .i64 x.2.1,.int .u32 (x.2.2:Nat)] 120)):=by
 refine Src.ofSlice _ Tryz.underlying113 _ 1 1 _ rfl (fun j u hj=>?_) (lcells_one _)
 rw [Addr.add_lit,Nat.zero_add]
 refine cell_of (heap_alloc_last w _) j u ?_
 rcases j with _|_|_|j
 ·simpa [lcells] using hj
 ·simpa [lcells] using hj
 ·simpa [lcells] using hj
 ·simp [lcells]at hj
def LnOk (l:List Ln):Prop:=∀ x∈l,I64 x.1∧I64 x.2.1∧x.2.2<4294967296
theorem sl_lnIs {w:World} {S:Nat→Prop} {v:Value} {l:List Ln} (h:Sl w S 120 3 v (lcells l) l.length) (hs:LnOk l):∃ a cap,v = .slice a l.length cap∧LnIs w a cap l:=by
 obtain ⟨a,cap,rfl,h1,h2⟩:=h.value
 refine ⟨a,cap,rfl,h1,h2,hs,fun h0=>?_⟩
 obtain ⟨g,off,cp,hv,-,-,-,hcl,-,hgl⟩:=h.opens h0
 injection hv with e1 _ e3
 refine ⟨g,off,e1,hgl,fun i x hi=>?_⟩
 have hl:=(List.getElem?_eq_some_iff.1 hi).1
 obtain ⟨g1,g2,g3⟩:=lcells_get l i x hi
 refine ⟨(hcl (i * 3) (by omega)).trans g1,?_,?_⟩
 ·rw [Nat.add_assoc];exact (hcl (i * 3+1) (by omega)).trans g2
 ·rw [Nat.add_assoc];exact (hcl (i * 3+2) (by omega)).trans g3
def finL:Option (List Ln)→Except Nat (List Ln)
 |none=>.error 3
 |some l=>.ok l
def decR (t:ByteArray):Except Nat (List Ln):=
 if t.size<10 then .error 2
 else if t.extract 0 5≠⟨#[80,68,71,77,1]⟩ then .error 3
 else if (rdNum (t.extract (t.size - 4) t.size) (0,0) 4).1≠Crc.sum (nums (t.extract 0 (t.size - 4))) then .error 4
 else finL (progL (t.extract 5 (t.size - 4)))
def DecPost (w:World) (r:Except Nat (List Ln)) (e:Ending) (w' : World):Prop:=
 Turned (fun _=>False) w w'∧match r with
  | .error k=>e = .returned (.tuple #[.slice none 0 0,.int .i64 (k:Nat)])
  | .ok l=>∃ v,e = .returned (.tuple #[v,.int .i64 0])∧Sl w' (fun b=>w.heap.size≤b) 120 3 v (lcells l) l.length
def D1 (w:World) (p:Nat) (s:ByteArray) (st:Nat×Nat) (c:Nat) (g:Nat) (lv i:Value) (wr:World):Prop:=
 ∃ (k:Nat) (S1:Nat→Prop),k+g=c∧i = .int .u8 k∧Sl wr S1 120 3 lv (lcells (lnK s st k).1) k∧RdIs wr p s (lnK s st k).2∧Turned (· = p) w wr∧(∀ b,S1 b→w.heap.size≤b∧b<wr.heap.size)
set_option maxHeartbeats 4000000 in
theorem decode_any (t:ByteArray) (w:World) (hs:t.size≤4611686018427387904):Calls Tryz.prog 54 #[.string t] w (DecPost w (decR t)):=by
 by_cases h2:t.size<10
 ·have hd3 : decide ((t.size : Int) < 10) = true := by simp; omega
  have hd4:decide (t.size<10)=true:=by simp;omega
  have HR:Hid (decR t = .error 2):=by
   have:decR t = .error 2:=by unfold decR;rw [if_pos h2]
   exact this
  rw [HR.out]
  clear hs h2
  go_enter Tryz.func54,Tryz.ntmps54
  go_wp2
  go_ret2
  exact ⟨Turned.refl _ _,rfl⟩
 have hd3:decide ((t.size:Int)<10)=false:=by simp;omega
 have hd4:decide (t.size<10)=false:=by simp;omega
 have hw:wrap64 ((t.size:Int) - 4)=((t.size - 4:Nat):Int):=by simp [wrap64];omega
 have hpx:=prefix_any t ⟨#[80,68,71,77,1]⟩ w (by show 5≤t.size;omega) hs
 change Calls Tryz.prog 121 _ _ (fun e w'=>e = .returned (.bool (decide (t.extract 0 5=⟨#[80,68,71,77,1]⟩)))∧w=w') at hpx
 by_cases h3:t.extract 0 5=⟨#[80,68,71,77,1]⟩
 ·rw [decide_eq_true h3] at hpx
  have hsl2:∀ W,(Instr.slice 9 (.string t) (some (.int .i64 (wrap64 ((t.size:Int) - 4)))) none none).run Tryz.prog W = .ok (.string (t.extract (t.size - 4) t.size)) W:=fun W=>by
   rw [hw]
   have:=run_slice_string_l (P:=Tryz.prog) W 9 t Tryz.underlying9 .i64 ((t.size - 4:Nat):Int) (by omega) (by omega)
   rw [Int.toNat_natCast]at this
   exact this
  have hsl3:∀ W,(Instr.slice 9 (.string t) none (some (.int .i64 (wrap64 ((t.size:Int) - 4)))) none).run Tryz.prog W = .ok (.string (t.extract 0 (t.size - 4))) W:=fun W=>by
   rw [hw]
   have:=run_slice_string_h (P:=Tryz.prog) W 9 t Tryz.underlying9 .i64 ((t.size - 4:Nat):Int) (by omega) (by omega)
   rw [Int.toNat_natCast]at this
   exact this
  have hsl4:∀ W,(Instr.slice 9 (.string t) (some (.int .i64 5)) (some (.int .i64 (wrap64 ((t.size:Int) - 4)))) none).run Tryz.prog W = .ok (.string (t.extract 5 (t.size - 4))) W:=fun W=>by
   rw [hw]
   have:=run_slice_string (P:=Tryz.prog) W 9 t .i64 .i64 5 ((t.size - 4:Nat):Int) Tryz.underlying9 (by omega) (by omega) (by omega)
   rw [Int.toNat_natCast]at this
   exact this
  have z2:(t.extract (t.size - 4) t.size).size≤4611686018427387904:=by rw [ByteArray.size_extract];omega
  have z3:(t.extract 0 (t.size - 4)).size≤4611686018427387904:=by rw [ByteArray.size_extract];omega
  have z4:(t.extract 5 (t.size - 4)).size≤4611686018427387904:=by rw [ByteArray.size_extract];omega
  have hp:decR t=if (rdNum (t.extract (t.size - 4) t.size) (0,0) 4).1≠Crc.sum (nums (t.extract 0 (t.size - 4))) then .error 4 else finL (progL (t.extract 5 (t.size - 4))):=by
   unfold decR
   rw [if_neg h2,if_neg (by simp [h3])]
  have hsum:=fun W=>sum_one (W:World).heap.size 0 1 (t.extract 0 (t.size - 4)) (W.alloc (.cells #[.string (t.extract 0 (t.size - 4))] 9)) (cell_of (heap_alloc_last W _) 0 _ rfl) (by simp) z3
  have hu:=fun (W:World) (p:Nat) (h:RdIs W p (t.extract (t.size - 4) t.size) (0,0))=>u32_r h (Nat.zero_le _) z2
  unfold NumPost at hu
  have hq:(rdNum (t.extract (t.size - 4) t.size) (0,0) 4).1<4294967296:=rdNum_lt _ _ 4
  have hcs:=crcsum_lt (t.extract 0 (t.size - 4))
  generalize rdNum (t.extract (t.size - 4) t.size) (0,0) 4=q at *
  generalize Crc.sum (nums (t.extract 0 (t.size - 4)))=cs at *
  generalize t.extract (t.size - 4) t.size=s2 at *
  generalize t.extract 0 (t.size - 4)=s3 at *
  generalize t.extract 5 (t.size - 4)=s at *
  have HS:Hid (s.size≤4611686018427387904):=z4
  have HP:Hid (decR t=if q.1≠cs then .error 4 else finL (progL s)):=hp
  generalize decR t=R at *
  have HU:Hid (∀ (W:World) (p:Nat),RdIs W p s2 (0,0)→Calls Tryz.prog 123 #[pt p] W fun e w'=>e = .returned (.tuple #[.int .u32 (q.1:Nat),.int .i64 (q.2.2:Nat)])∧RdIs w' p s2 q.2∧Turned (· = p) W w'):=hu
  have hn:=newReader_any s2 w
  obtain ⟨c,hc⟩:∃ c,c=rdNum s (0,0) 1:=⟨_,rfl⟩
  have hc256:c.1<256:=by rw [hc];exact rdNum_lt s (0,0) 1
  have hcat:c.2.1≤s.size:=by rw [hc];exact rdNum_at s (0,0) 1 (Nat.zero_le _)
  have h8:∀ W p,RdIs W p s (0,0)→Calls Tryz.prog 125 #[pt p] W fun e w'=>e = .returned (.tuple #[.int .u8 (c.1:Nat),.int .i64 (c.2.2:Nat)])∧RdIs w' p s c.2∧Turned (· = p) W w':=fun W p h=>by
   have:=u8_r h (Nat.zero_le _) z4
   unfold NumPost at this
   rw [←hc]at this
   exact this
  have HC:Hid (c=rdNum s (0,0) 1∧c.1<256∧c.2.1≤s.size):=⟨hc,hc256,hcat⟩
  obtain ⟨n,st⟩:=c
  simp only at h8 HC
  have H8:Hid (∀ W p,RdIs W p s (0,0)→Calls Tryz.prog 125 #[pt p] W fun e w'=>e = .returned (.tuple #[.int .u8 (n:Nat),.int .i64 (st.2:Nat)])∧RdIs w' p s st∧Turned (· = p) W w'):=h8
  clear hu hp hs h2 h3 hw z2 z3 z4 hc hc256 hcat h8
  by_cases hqc:q.1=cs
  ·have hd5 : ((q.1 : Int) == (cs : Int)) = true := by simp; omega
   have hpr:=HP.out
   rw [if_neg (by simp [hqc])]at hpr
   have HPR:Hid (R=finL (progL s)):=hpr
   clear hpr hq hcs hqc HP
   go_enter Tryz.func54,Tryz.ntmps54
   go_wp2_with (first
    |(go_at_call 121;(with_reducible refine hpx.mono ?_);rintro e w0 ⟨rfl,rfl⟩)
    |(go_at_call 122;(with_reducible refine hn.mono ?_);rintro e w1 ⟨rfl,hr1,ht1,hz1⟩;have h60:=HU.out w1 _ hr1;have Z1:Hid (Turned (fun _=>False) w w1∧w1.heap.size=w.heap.size+1):=⟨ht1,hz1⟩;clear hr1 ht1 hz1 hn)
    |(go_at_call 123;(with_reducible refine h60.mono ?_);rintro e w2 ⟨rfl,hr2,ht2⟩;have Z2:Hid (Turned (fun _=>False) w w2):=Z1.out.1.comp ht2 (fun i hi q=>q.elim (fun q=>q) (fun q=>by omega));have h47:=hsum w2;clear hr2 ht2 h60)
    |(go_at_call 124;(with_reducible refine h47.mono ?_);rintro e w3 ⟨rfl,ht3⟩;have Z3:Hid (Turned (fun _=>False) w w3):=Z2.out.trans ((Turned.alloc (fun _=>False) w2 _).trans ht3 fun _ _ q=>q) (fun _ _ q=>q);have hn3:=newReader_any s w3;clear ht3 h47)
    |(go_at_call 122;(with_reducible refine hn3.mono ?_);rintro e w4 ⟨rfl,hr4,ht4,hz4⟩;have h30:=H8.out w4 _ hr4;have Z4:Hid (Turned (fun _=>False) w w4∧w.heap.size≤w3.heap.size∧w3.heap.size<w4.heap.size):=⟨Z3.out.trans ht4 (fun _ _ q=>q),Z3.out.size,by omega⟩;generalize w3.heap.size=p at *;clear hr4 ht4 hz4 hn3)
    |(go_at_call 125;(with_reducible refine h30.mono ?_);rintro e w5 ⟨rfl,hr5,ht5⟩;have Z5:Hid (RdIs w5 p s st∧Turned (· = p) w4 w5):=⟨hr5,ht5⟩;clear hr5 ht5 h30))
   have HS1:Hid (D1 w4 p s st n n (.slice none 0 0) (.int .u8 0) w5):=⟨0,fun _=>False,by omega,rfl,Sl.nil _ _ _ _,Z5.out.1,Z5.out.2,fun _ q=>q.elim⟩
   go_loopg [10,53] n (fun g lv i wr=>D1 w4 p s st n g lv i wr)
   case atStart=>exact HS1.out
   case round=>
    obtain ⟨k,S1,hkg,rfl,hsl1,hrd,htw,hap⟩:=hrel
    have G:Hid (k+gk=n):=hkg
    have L1:Hid (Sl wr S1 120 3 u10 (lcells (lnK s st k).1) k):=hsl1
    have RD:Hid (RdIs wr p s (lnK s st k).2):=hrd
    have TW:Hid (Turned (· = p) w4 wr):=htw
    have AP:Hid (∀ b,S1 b→w4.heap.size≤b∧b<wr.heap.size):=hap
    obtain ⟨a1,cap1,rfl,-,-⟩:=hsl1.value
    clear hkg hsl1 hrd htw hap HS1 hd3 hd4 hd5
    have hat:=lnK_at s st k HC.out.2.2
    by_cases hlt:k<n
    ·have hA := u32_r RD.out hat HS.out
     have hB:=fun w6 (hr:RdIs w6 p s (rdNum s (lnK s st k).2 4).2)=>u32_r hr (rdNum_at s _ 4 hat) HS.out
     have hD:=fun w6 (hr:RdIs w6 p s (rdNum s (rdNum s (lnK s st k).2 4).2 4).2)=>u32_r hr (rdNum_at s _ 4 (rdNum_at s _ 4 hat)) HS.out
     unfold NumPost at hA hB hD
     have TS:Hid ((lnK s st (k+1)).1=(lnK s st k).1 ++ [(((rdNum s (lnK s st k).2 4).1:Int),((rdNum s (rdNum s (lnK s st k).2 4).2 4).1:Int),(rdNum s (rdNum s (rdNum s (lnK s st k).2 4).2 4).2 4).1)]∧(lnK s st (k+1)).2=(rdNum s (rdNum s (rdNum s (lnK s st k).2 4).2 4).2 4).2):=⟨rfl,rfl⟩
     have hq1:=rdNum_lt s (lnK s st k).2 4
     have hq2:=rdNum_lt s (rdNum s (lnK s st k).2 4).2 4
     generalize (rdNum s (rdNum s (rdNum s (lnK s st k).2 4).2 4).2 4)=q3 at *
     generalize (rdNum s (rdNum s (lnK s st k).2 4).2 4)=q2 at *
     generalize (rdNum s (lnK s st k).2 4)=q1 at *
     obtain ⟨x1,st1⟩:=q1
     obtain ⟨x2,st2⟩:=q2
     obtain ⟨x3,st3⟩:=q3
     simp only at hA hB hD TS hq1 hq2
     have HB:Hid (∀ w6,RdIs w6 p s st1→Calls Tryz.prog 123 #[pt p] w6 fun e w'=>e = .returned (.tuple #[.int .u32 (x2:Nat),.int .i64 (st2.2:Nat)])∧RdIs w' p s st2∧Turned (· = p) w6 w'):=hB
     have HD:Hid (∀ w6,RdIs w6 p s st2→Calls Tryz.prog 123 #[pt p] w6 fun e w'=>e = .returned (.tuple #[.int .u32 (x3:Nat),.int .i64 (st3.2:Nat)])∧RdIs w' p s st3∧Turned (· = p) w6 w'):=hD
     have HW:Hid (wrap64 (x1:Int)=(x1:Int)∧wrap64 (x2:Int)=(x2:Int)):=⟨by simp [wrap64];omega,by simp [wrap64];omega⟩
     have m1:Hid (k+1≤maxLen∧(k+1) * 24≤140737488355328):=(by have:=HC.out.2.1;simp only [maxLen];omega:k+1≤maxLen∧(k+1) * 24≤140737488355328)
     clear hat hB hD hq1 hq2
     go_wp2_with (first
      |(go_at_call 123;(with_reducible refine hA.mono ?_);rintro e w6 ⟨rfl,hr6,ht6⟩;have hB6:=HB.out w6 hr6;have Z6:Hid (Turned (· = p) wr w6):=ht6;clear hr6 ht6 hA)
      |(go_at_call 123;(with_reducible refine hB6.mono ?_);rintro e w7 ⟨rfl,hr7,ht7⟩;have hD7:=HD.out w7 hr7;have Z7:Hid (Turned (· = p) wr w7):=Z6.out.trans ht7 (fun _ _ q=>q);clear hr7 ht7 hB6)
      |(go_at_call 123;(with_reducible refine hD7.mono ?_);rintro e w8 ⟨rfl,hr8,ht8⟩;have Z8:Hid (Turned (· = p) wr w8∧RdIs w8 p s st3):=⟨Z7.out.trans ht8 (fun _ _ q=>q),hr8⟩;have A1:Hid (Sl (w8.alloc (.cells #[.int .i64 (wrap64 (x1:Int)),.int .i64 (wrap64 (x2:Int)),.int .u32 (x3:Nat)] 120)) S1 120 3 (.slice a1 k cap1) (lcells (lnK s st k).1) k):=(L1.out.turned Z8.out.1 (fun b q z=>by have:=AP.out b q;have:=Z4.out;omega)).turned (Turned.alloc (fun _=>False) w8 _) (fun _ _ q=>q);clear hr8 ht8 hD7)
      |(at_builtin;refine wpList_append rfl _ _ 113 113 rfl A1.out Tryz.underlying113 info43 rfl (by decide) rfl (.slice (some ⟨w8.heap.size,0,none⟩) 1 1) rfl (src_ln (wrap64 (x1:Int),wrap64 (x2:Int),x3) w8) m1.out.1 m1.out.2 ?_;intro x4 w9 q1 t1;obtain ⟨a3,cap3,hv3,-,-⟩:=q1.value;subst hv3;have Q1:Hid (Sl w9 (More S1 (w8.alloc (.cells #[.int .i64 (wrap64 (x1:Int)),.int .i64 (wrap64 (x2:Int)),.int .u32 (x3:Nat)] 120))) 120 3 (.slice a3 (k+1) cap3) (lcells (lnK s st k).1 ++ lcells [(wrap64 (x1:Int),wrap64 (x2:Int),x3)]) (k+1)∧Turned S1 (w8.alloc (.cells #[.int .i64 (wrap64 (x1:Int)),.int .i64 (wrap64 (x2:Int)),.int .u32 (x3:Nat)] 120)) w9):=⟨q1,t1⟩;clear q1 t1))
     go_roundg (gk - 1)
     case measure=>have:=G.out;omega
     case rel=>
      have g0:=TW.out.size
      have g1:=Z8.out.1.size
      have g2:=Q1.out.2.size
      have g4:(w8.alloc (.cells #[.int .i64 (wrap64 (x1:Int)),.int .i64 (wrap64 (x2:Int)),.int .u32 (x3:Nat)] 120)).heap.size=w8.heap.size+1:=by simp
      have hap:=AP.out
      have hp:=Z4.out.2.2
      have hcn:=HC.out.2.1
      have hgk:=G.out
      have k1:Turned S1 w8 w9:=(Turned.alloc S1 w8 _).trans Q1.out.2 fun _ _ q=>q
      refine ⟨k+1,fun b=>More S1 (w8.alloc (.cells #[.int .i64 (wrap64 (x1:Int)),.int .i64 (wrap64 (x2:Int)),.int .u32 (x3:Nat)] 120)) b∧b<w9.heap.size,by omega,?_,?_,?_,?_,?_⟩
      ·simp [IntKind.wrap,IntKind.bits,IntKind.signed];omega
      ·have q1 := Q1.out.1.bound
       rw [HW.out.1,HW.out.2]at q1
       rw [TS.out.1,lcells_append,HW.out.1,HW.out.2]
       exact q1
      ·rw [TS.out.2]
       exact Z8.out.2.turned k1 fun q=>by have:=hap p q;omega
      ·exact (TW.out.trans Z8.out.1 fun _ _ q=>q).comp k1 fun i hi q=>q.elim (fun q=>q) fun q=>by have:=hap i q;omega
      ·intro b q
       refine ⟨?_,q.2⟩
       rcases q.1 with y|y
       ·exact (hap b y).1
       ·omega
    ·have hk : k = n := by have := G.out; omega
     subst hk
     have hend:=end_r RD.out hat HS.out
     have hlen:=lnK_length s st k
     have hlt2:=lnK_lt s st k
     have hpr:progL s=if (lnK s st k).2.2≠0∨(lnK s st k).2.1<s.size then none else if lnErr (lnK s st k).1≠0 then none else some (lnK s st k).1:=by
      have h1:=HC.out.1
      unfold progL
      rw [←h1]
     have HPL:Hid (progL s=if (lnK s st k).2.2≠0∨(lnK s st k).2.1<s.size then none else if lnErr (lnK s st k).1≠0 then none else some (lnK s st k).1):=hpr
     clear hpr hat
     generalize (lnK s st k).2=ste at *
     generalize (lnK s st k).1=l at *
     have hfin:Turned (fun _=>False) w wr:=Z4.out.1.comp TW.out fun i hi q=>q.elim (fun q=>q) fun q=>by have:=Z4.out.2;omega
     have TF:Hid (Turned (fun _=>False) w wr):=hfin
     have HLL:Hid (l.length=k∧LnOk l):=⟨hlen,hlt2⟩
     clear hfin hlen hlt2
     by_cases hz:ste.2=0∧s.size≤ste.1
     ·have HZ : Hid (ste.2 = 0 ∧ s.size ≤ ste.1) := hz
      have hck:∀ W,Turned (· = p) wr W→Calls Tryz.prog 127 #[.slice a1 k cap1] W fun e w'=>e = .returned (.int .i64 (lnErr l:Nat))∧Turned (fun _=>False) W w':=fun W htW=>by
       have hsl:=L1.out.turned htW fun b q z=>by have:=AP.out b q;have:=Z4.out.2;omega
       rw [←HLL.out.1]at hsl
       obtain ⟨a',cap',hv,hli⟩:=sl_lnIs hsl HLL.out.2
       injection hv with e1 _ e3
       subst e1;subst e3
       have:=check_any a1 cap1 l W hli
       rw [HLL.out.1]at this
       exact this
      have HCK:Hid (∀ W,Turned (· = p) wr W→Calls Tryz.prog 127 #[.slice a1 k cap1] W fun e w'=>e = .returned (.int .i64 (lnErr l:Nat))∧Turned (fun _=>False) W w'):=hck
      have hpl:progL s=if lnErr l≠0 then none else some l:=by
       have:=HPL.out
       rw [if_neg (by have:=hz.1;have:=hz.2;omega)]at this
       exact this
      clear hz hck
      by_cases hle:lnErr l=0
      ·rw [if_neg (by simp [hle])] at hpl
       have HRR:Hid (R = .ok l):=by have:=HPR.out;rw [hpl]at this;exact this
       rw [hle]at HCK
       clear hpl hle
       go_wp2_with (first
        |(go_at_call 126;(with_reducible refine hend.mono ?_);rintro e w6 ⟨kk,rfl,hk,ht6⟩;obtain rfl:kk=0:=hk.2 HZ.out;have T6:Hid (Turned (· = p) wr w6):=ht6;have h12:=HCK.out w6 ht6;clear ht6 hk)
        |(go_at_call 127;(with_reducible refine h12.mono ?_);rintro e w7 ⟨rfl,ht7⟩))
       go_ret2
       refine ⟨(TF.out.comp T6.out (T:=fun _=>False) fun i hi q=>q.elim (fun q=>q) fun q=>by have:=Z4.out.2;omega).trans ht7 fun _ _ q=>q,?_⟩
       rw [HRR.out]
       refine ⟨_,rfl,?_⟩
       rw [HLL.out.1]
       exact ((L1.out.turned T6.out fun b q z=>by have:=AP.out b q;have:=Z4.out.2;omega).turned ht7 fun _ _ q=>q).widen fun b q=>by have:=AP.out b q;have:=Z4.out.2;omega
      ·rw [if_pos hle] at hpl
       have HRR:Hid (R = .error 3):=by have:=HPR.out;rw [hpl]at this;exact this
       generalize lnErr l=le at *
       have hle0:((le:Int) == 0)=false:=by simp;omega
       clear hpl hle
       go_wp2_with (first
        |(go_at_call 126;(with_reducible refine hend.mono ?_);rintro e w6 ⟨kk,rfl,hk,ht6⟩;obtain rfl:kk=0:=hk.2 HZ.out;have T6:Hid (Turned (· = p) wr w6):=ht6;have h12:=HCK.out w6 ht6;clear ht6 hk)
        |(go_at_call 127;(with_reducible refine h12.mono ?_);rintro e w7 ⟨rfl,ht7⟩))
       go_ret2
       refine ⟨(TF.out.comp T6.out (T:=fun _=>False) fun i hi q=>q.elim (fun q=>q) fun q=>by have:=Z4.out.2;omega).trans ht7 fun _ _ q=>q,?_⟩
       rw [HRR.out]
       rfl
     ·have HZ : Hid (¬ (ste.2 = 0 ∧ s.size ≤ ste.1)) := hz
      have hpl:progL s=none:=by
       have:=HPL.out
       rw [if_pos (by omega)]at this
       exact this
      have HRR:Hid (R = .error 3):=by have:=HPR.out;rw [hpl]at this;exact this
      clear hz hpl
      go_wp2_with (go_at_call 126;(with_reducible refine hend.mono ?_);rintro e w6 ⟨kk,rfl,hk,ht6⟩;have hk0:kk≠0:=(fun q=>HZ.out (hk.1 q));have hd:((kk:Int) == 0)=false:=(by simp;omega);clear hk)
      go_ret2
      refine ⟨TF.out.comp ht6 (T:=fun _=>False) fun i hi q=>q.elim (fun q=>q) fun q=>by have:=Z4.out.2;omega,?_⟩
      rw [HRR.out]
      rfl
  ·have hd5 : ((q.1 : Int) == (cs : Int)) = false := by simp; omega
   have hpr:=HP.out
   rw [if_pos hqc]at hpr
   have HRR:Hid (R = .error 4):=hpr
   clear hpr hq hcs hqc HP
   go_enter Tryz.func54,Tryz.ntmps54
   go_wp2_with (first
    |(go_at_call 121;(with_reducible refine hpx.mono ?_);rintro e w0 ⟨rfl,rfl⟩)
    |(go_at_call 122;(with_reducible refine hn.mono ?_);rintro e w1 ⟨rfl,hr1,ht1,hz1⟩;have h60:=HU.out w1 _ hr1;have Z1:Hid (Turned (fun _=>False) w w1∧w1.heap.size=w.heap.size+1):=⟨ht1,hz1⟩;clear hr1 ht1 hz1 hn)
    |(go_at_call 123;(with_reducible refine h60.mono ?_);rintro e w2 ⟨rfl,hr2,ht2⟩;have Z2:Hid (Turned (fun _=>False) w w2):=Z1.out.1.comp ht2 (fun i hi q=>q.elim (fun q=>q) (fun q=>by omega));have h47:=hsum w2;clear hr2 ht2 h60)
    |(go_at_call 124;(with_reducible refine h47.mono ?_);rintro e w3 ⟨rfl,ht3⟩;have Z3:Hid (Turned (fun _=>False) w w3):=Z2.out.trans ((Turned.alloc (fun _=>False) w2 _).trans ht3 fun _ _ q=>q) (fun _ _ q=>q);clear ht3 h47))
   go_ret2
   exact ⟨Z3.out,by rw [HRR.out];rfl⟩
 ·rw [decide_eq_false h3] at hpx
  have HR:Hid (decR t = .error 3):=by
   have:decR t = .error 3:=by unfold decR;rw [if_neg h2,if_pos h3]
   exact this
  rw [HR.out]
  clear hs h2 hw h3
  go_enter Tryz.func54,Tryz.ntmps54
  go_wp2_with (go_at_call 121;(with_reducible refine hpx.mono ?_);rintro e w0 ⟨rfl,rfl⟩)
  go_ret2
  exact ⟨Turned.refl _ _,rfl⟩
end Go.Proofs.YtofcogekgcgjhaaGreatDoor.Ch
