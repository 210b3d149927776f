/- Packed. -/
import Derived.Test.YtofcogekgcgjhaaGreatDoorZzae
import Derived.Deep.RegionLaw
import Derived.Laws.BitsAllLaws
set_option linter.unusedVariables false
set_option linter.unusedSimpArgs false
set_option maxRecDepth 100000
namespace Go.Proofs.YtofcogekgcgjhaaGreatDoor
open Go.RowKit Go.Mine
theorem byteCells_eq (s:ByteArray):byteCells s=bcells s.data.toList:=rfl
set_option maxHeartbeats 1000000 in
theorem raw_any {S:Nat→Prop} {p:Nat} {bs:List UInt8} (s:ByteArray) (w:World) (h:Wr w S p bs) (hL:bs.length+s.size≤1099511627776) :
  Calls Tryz.prog 149 #[pt p,.string s] w fun e w'=>e = .returned (.tuple #[])∧Wr w' (More S w) p (bs ++ s.data.toList)∧Turned S w w':=by
 obtain ⟨hp,v,R,hb,hsl,hpR,hR⟩:=h
 have hc:=cell_of hb 0 _ rfl
 have hfr:=free_of hb 0
 have hlt:=lt_of_block hb
 have hsz:s.data.toList.length=s.size:=by rw [Array.length_toList];rfl
 have h1:bs.length+s.size≤maxLen:=by simp [maxLen];omega
 have h2:(bs.length+s.size) * 1≤140737488355328:=by omega
 have X:Hid (S p∧(∀ b,R b→S b)∧¬ R p∧Blk w p #[v] 300):=⟨hp,hR,hpR,hb⟩
 have H1:Hid (bs.length+s.size≤maxLen):=h1
 have H2:Hid ((bs.length+s.size) * 1≤140737488355328):=h2
 have HS:Hid (Sl w R 5 1 v (bcells bs) bs.length):=hsl
 clear hp hR hpR hb h1 h2 hsl hL
 obtain ⟨a,cap,hv,-,-⟩:=HS.out.value
 have V:Hid (v = .slice a bs.length cap):=hv
 clear hv
 go_enter Tryz.func149,Tryz.ntmps149
 go_wp2_with (at_builtin;refine wpList_append rfl _ _ 83 9 rfl HS.out Tryz.underlying83 info5 rfl (by decide) rfl (.string s) rfl (Src.ofString w Tryz.underlying9 s) H1.out H2.out ?_;intro v' w1 hsl1 ht1;obtain ⟨a2,cap2,hv2,-,-⟩:=hsl1.value;subst hv2;have hb1:Blk w1 p #[v] 300:=X.out.2.2.2.turned ht1 X.out.2.2.1;have hc1:=cell_of hb1 0 _ rfl;have hf1:=free_of hb1 0)
 go_end0
 have t2:Turned (· = p) w1 (w1.setCell ⟨p,0,none⟩ (.slice a2 (bs.length+s.size) cap2)):=Turned.setCell (S:=(· = p)) (p:=⟨p,0,none⟩) rfl _
 have hb2:Blk (w1.setCell ⟨p,0,none⟩ (.slice a2 (bs.length+s.size) cap2)) p #[.slice a2 (bs.length+s.size) cap2] 300:=Go.Mine.heap_setCell_same hb1 _
 rw [byteCells_eq,←hsz]at hsl1
 have:=Wr.put X.out.1 X.out.2.1 X.out.2.2.1 hlt hsl1 (ht1.comp t2 fun i _ q=>q.elim (X.out.2.1 i) fun q=>q ▸ X.out.1) t2 hb2
 exact ⟨rfl,this⟩
theorem shr_any (P:Program) (v k:Nat) (hk:k<8) (w:World):(Op.shift .shr .u64 (v:Int) .i64 (8 * (k:Int))).run P w = .ok (.int .u64 ((v / 256 ^ k:Nat):Int)) w:=by
 have h1:¬ (8 * (k:Int)<0):=by omega
 have h2:min (8 * (k:Int)).toNat IntKind.u64.bits=8 * k:=by
  have:IntKind.u64.bits=64:=rfl
  rw [this];omega
 unfold Op.shift
 rw [if_neg h1,h2]
 have h3:(v:Int).fdiv (2 ^ (8 * k))=((v / 256 ^ k:Nat):Int):=by
  rw [show (256:Nat)=2 ^ 8 from rfl,←Nat.pow_mul]
  rw [Int.fdiv_eq_ediv_of_nonneg _ (Int.pow_nonneg (by decide))]
  push_cast
  rfl
 simp only [h3]
 rfl
def FixRel (w:World) (S:Nat→Prop) (p v n:Nat) (bs:List UInt8) (g:Nat) (i:Value) (wr:World):Prop:=
 ∃ pre:List UInt8,g≤n∧i = .int .i64 ((g:Int) - 1)∧num v n=pre ++ num v g∧Wr wr (More S w) p (bs ++ pre)∧Turned S w wr
set_option maxHeartbeats 1000000 in
theorem fixed_any {S:Nat→Prop} {p:Nat} {bs:List UInt8} (v n:Nat) (w:World) (h:Wr w S p bs) (hv:v<18446744073709551616) (hn:n≤8) (hL:bs.length+n≤1099511627776) :
  Calls Tryz.prog 234 #[pt p,.int .u64 v,.int .i64 n] w fun e w'=>e = .returned (.tuple #[])∧Wr w' (More S w) p (bs ++ num v n)∧Turned S w w':=by
 have HW:Hid (FixRel w S p v n bs n (.int .i64 ((n:Int) - 1)) w):=⟨[],Nat.le_refl _,rfl,rfl,by rw [List.append_nil];exact h.widen fun _ q=>.inl q,Turned.refl _ _⟩
 have V:Hid (v<18446744073709551616∧bs.length+n≤1099511627776):=⟨hv,hL⟩
 clear h hv hL
 go_enter Tryz.func234,Tryz.ntmps234
 go_wp2
 go_loopg [2] n (fun g i wr=>FixRel w S p v n bs g i wr)
 case atStart=>exact HW.out
 case round=>
  obtain ⟨pre,hg,rfl,hnum,hWr,ht⟩:=hrel
  have F:Hid (num v n=pre ++ num v gk∧Turned S w wr):=⟨hnum,ht⟩
  clear hnum ht
  rcases Nat.eq_zero_or_pos gk with rfl|hpos
  ·have hd : decide ((0 : Int) ≤ ((0 : Nat) : Int) - 1) = false := by decide
   have X:Hid (Wr wr (More S w) p (bs ++ pre)):=hWr
   clear hWr
   go_wp2
   go_end0
   have hpre:num v n=pre:=by have:=F.out.1;rwa [num,List.append_nil]at this
   rw [hpre]
   exact ⟨rfl,X.out,F.out.2⟩
  ·obtain ⟨k, rfl⟩ : ∃ k, gk = k + 1 := ⟨gk - 1, by omega⟩
   obtain ⟨hp,sv,R,hb,hsl,hpR,hR⟩:=hWr
   have hc:=cell_of hb 0 _ rfl
   have hfr:=free_of hb 0
   have hlt:=lt_of_block hb
   obtain ⟨a,cap,rfl,-,-⟩:=hsl.value
   have hlen:(bs ++ pre).length+1≤1099511627776:=by
    have h1:=congrArg List.length F.out.1
    rw [num_length,List.length_append,num_length]at h1
    have:=V.out.2
    rw [List.length_append];omega
   have h1:Hid ((bs ++ pre).length+1≤maxLen):=(by simp only [maxLen];omega:(bs ++ pre).length+1≤maxLen)
   have h2:Hid (((bs ++ pre).length+1) * 1≤140737488355328):=(by omega:((bs ++ pre).length+1) * 1≤140737488355328)
   have X:Hid (More S w p∧(∀ b,R b→More S w b)∧¬ R p∧Blk wr p #[.slice a (bs ++ pre).length cap] 300∧Sl wr R 5 1 (.slice a (bs ++ pre).length cap) (bcells (bs ++ pre)) (bs ++ pre).length):=⟨hp,hR,hpR,hb,hsl⟩
   clear hp hR hpR hb hsl hlen
   generalize hLL:(bs ++ pre).length=L at *
   have HL:Hid ((bs ++ pre).length=L):=hLL
   clear hLL
   have hk:((k+1:Nat):Int) - 1=k:=by omega
   have hnew:=World.new_ne wr ⟨p,0,none⟩ hc
   rw [hk]
   clear hk
   have hwr:IntKind.i64.wrap (8 * (k:Int))=8 * k:=by rw [IntKind.wrap_i64];omega
   have hsh:=shr_any Tryz.prog v k (by omega)
   have Y:Hid (k<8):=(by omega:k<8)
   have hX:IntKind.u8.wrap ((v:Int) / 2 ^ (8 * (k:Int)).toNat)=((UInt8.ofNat (v / 256 ^ k)).toNat:Nat):=by
    have h8:(8 * (k:Int)).toNat=8 * k:=by omega
    rw [IntKind.wrap_u8,h8]
    have:(UInt8.ofNat (v / 256 ^ k)).toNat=v / 256 ^ k % 256:=by simp
    rw [this,show (256:Nat)=2 ^ 8 from rfl,←Nat.pow_mul]
    push_cast
    rfl
   have HX:Hid (IntKind.u8.wrap ((v:Int) / 2 ^ (8 * (k:Int)).toNat)=((UInt8.ofNat (v / 256 ^ k)).toNat:Nat)):=hX
   clear hX
   have HSL:Hid (Sl ((wr.alloc (.cells #[.int .u8 (IntKind.u8.wrap ((v:Int) / 2 ^ (8 * (k:Int)).toNat))] 5)).drew) R 5 1 (.slice a L cap) (bcells (bs ++ pre)) L):=
    (X.out.2.2.2.2.turned (Turned.alloc (fun _=>False) _ _) (fun _ _ q=>q)).drew
   have HSRC:Hid (Src Tryz.prog 1 83 (.slice (some ⟨wr.heap.size,0,none⟩) 1 1) 1 [.int .u8 (IntKind.u8.wrap ((v:Int) / 2 ^ (8 * (k:Int)).toNat))] ((wr.alloc (.cells #[.int .u8 (IntKind.u8.wrap ((v:Int) / 2 ^ (8 * (k:Int)).toNat))] 5)).drew)):=by
    refine Src.ofSlice _ Tryz.underlying83 ⟨wr.heap.size,0,none⟩ 1 1 _ rfl (fun j u hj=>?_) (fun u hu=>?_)
    ·rcases j with _ | j
     ·simp at hj
      subst hj
      exact cell_of (heap_alloc_last wr _) 0 _ rfl
     ·simp at hj
    ·simp at hu;subst hu;rfl
   go_wp2
   go_region_law ((refine step_append (by rfl) _ _ 83 83 (by rfl) HSL.out Tryz.underlying83 info5 rfl (by decide) (by rfl) (.slice (some ⟨wr.heap.size,0,none⟩) 1 1) (by rfl) HSRC.out h1.out h2.out ?_;intro v' w1 hsl1 ht1;obtain ⟨a2,cap2,hv2,-,-⟩:=hsl1.value;subst hv2;have ht2:=(Turned.alloc (fun b=>R b) wr (.cells #[.int .u8 (IntKind.u8.wrap ((v:Int) / 2 ^ (8 * (k:Int)).toNat))] 5)).trans ((Turned.drew (fun b=>R b) _).trans ht1 fun _ _ q=>q) fun _ _ q=>q;have hb1:Blk w1 p #[.slice a L cap] 300:=Blk.turned (w:=wr) X.out.2.2.2.1 ht2 X.out.2.2.1;have hf1:=free_of hb1 0;have hc1:=cell_of hb1 0 _ rfl;have HQ:Hid (Sl w1 _ 5 1 _ _ (L+1)∧Turned _ wr w1∧Blk w1 p _ 300):=⟨hsl1,ht2,hb1⟩;clear hsl1 ht1 ht2 hb1))
   all_goals go_wp2
   all_goals
    go_roundg k
    case measure=>omega
    case rel=>
     obtain ⟨q1,q2,q3⟩:=HQ.out
     have hsz:(wr.alloc (.cells #[.int .u8 (IntKind.u8.wrap ((v:Int) / 2 ^ (8 * (k:Int)).toNat))] 5)).drew.heap.size=wr.heap.size+1:=by simp
     have t2:Turned (· = p) w1 (w1.setCell ⟨p,0,none⟩ (.slice a2 (L+1) cap2)):=Turned.setCell (S:=(· = p)) (p:=⟨p,0,none⟩) rfl _
     have hb2:Blk (w1.setCell ⟨p,0,none⟩ (.slice a2 (L+1) cap2)) p #[.slice a2 (L+1) cap2] 300:=Go.Mine.heap_setCell_same q3 _
     rw [HX.out]at q1 hsz
     have q1' : Sl w1 (More R wr) 5 1 (.slice a2 (L+1) cap2) (bcells (bs ++ pre) ++ bcells [UInt8.ofNat (v / 256 ^ k)]) ((bs ++ pre).length + [UInt8.ofNat (v / 256 ^ k)].length):=by
      rw [HL.out]
      exact q1.widen fun b q=>q.elim .inl fun q=>.inr (by omega)
     have hput:=Wr.put X.out.1 X.out.2.1 X.out.2.2.1 hlt q1' (q2.comp t2 fun i _ q=>q.elim (X.out.2.1 i) fun q=>q ▸ X.out.1) t2 hb2
     have hs0:=F.out.2.size
     refine ⟨pre ++ [UInt8.ofNat (v / 256 ^ k)],by omega,rfl,?_,?_,F.out.2.trans hput.2 fun i hi q=>q.elim id fun q=>by omega⟩
     ·rw [F.out.1,num,List.append_assoc];rfl
     ·rw [← List.append_assoc]
      exact hput.1.widen fun b q=>q.elim id fun q=>.inr (by omega)
theorem newWriter_any (w:World):Calls Tryz.prog 145 #[] w fun e w'=>e = .returned (pt w.heap.size)∧Wr w' (fun b=>w.heap.size≤b) w.heap.size []∧Turned (fun _=>False) w w'∧w'.heap.size=w.heap.size+1:=by
 go_enter Tryz.func145,Tryz.ntmps145
 go_wp2
 go_ret
 refine ⟨rfl,⟨Nat.le_refl _,.slice none 0 0,fun _=>False,?_,Sl.nil _ _ _ _,fun q=>q,fun _ q=>q.elim⟩,Turned.alloc _ _ _,by simp⟩
 exact heap_alloc_last w _
theorem u8_any {S:Nat→Prop} {p:Nat} {bs:List UInt8} (v:Nat) (w:World) (h:Wr w S p bs) (hv:v<256) (hL:bs.length+1≤1099511627776) :
  Calls Tryz.prog 148 #[pt p,.int .u8 v] w fun e w'=>e = .returned (.tuple #[])∧Wr w' (More S w) p (bs ++ num v 1)∧Turned S w w':=by
 have hf:Calls Tryz.prog 234 #[pt p,.int .u64 v,.int .i64 1] w fun e w'=>e = .returned (.tuple #[])∧Wr w' (More S w) p (bs ++ num v 1)∧Turned S w w':=fixed_any v 1 w h (by omega) (by omega) hL
 have hm:((v:Int) % 18446744073709551616)=v:=by omega
 clear h hv hL
 go_enter Tryz.func148,Tryz.ntmps148
 go_wp2_with (go_at_call 234;(with_reducible refine hf.mono ?_);rintro e w2 ⟨rfl,hw,ht⟩)
 go_end0
 exact ⟨rfl,hw,ht⟩
theorem u32_any {S:Nat→Prop} {p:Nat} {bs:List UInt8} (v:Nat) (w:World) (h:Wr w S p bs) (hv:v<4294967296) (hL:bs.length+4≤1099511627776) :
  Calls Tryz.prog 150 #[pt p,.int .u32 v] w fun e w'=>e = .returned (.tuple #[])∧Wr w' (More S w) p (bs ++ num v 4)∧Turned S w w':=by
 have hf:Calls Tryz.prog 234 #[pt p,.int .u64 v,.int .i64 4] w fun e w'=>e = .returned (.tuple #[])∧Wr w' (More S w) p (bs ++ num v 4)∧Turned S w w':=fixed_any v 4 w h (by omega) (by omega) hL
 have hm:((v:Int) % 18446744073709551616)=v:=by omega
 clear h hv hL
 go_enter Tryz.func150,Tryz.ntmps150
 go_wp2_with (go_at_call 234;(with_reducible refine hf.mono ?_);rintro e w2 ⟨rfl,hw,ht⟩)
 go_end0
 exact ⟨rfl,hw,ht⟩
theorem sl_back {w:World} {R:Nat→Prop} {v:Value} {bs:List UInt8} (h:Sl w R 5 1 v (bcells bs) bs.length):(convert 83 9 v).run Tryz.prog w = .ok (.string ⟨bs.toArray⟩) w:=by
 rcases h.2 with ⟨rfl,hn⟩|⟨g,off,cap,cur,rfl,-,hg,hnc,hcm,hcs,htake⟩
 ·have : bs = [] := List.eq_nil_of_length_eq_zero hn
  subst this
  exact run_convert_bytes_nil w 83 5 Tryz.underlying83 Tryz.underlying5 0 0 9 Tryz.underlying9
 ·refine run_convert_bytes_back (P := Tryz.prog) w 83 9 5 ⟨g, off, none⟩ cap bs Tryz.underlying83 Tryz.underlying5 Tryz.underlying9 fun j hj => ?_
  rw [Addr.add_lit,cell_of_row _ _ _ _ _ _ hg]
  have h1:((cur.toList.drop off).take (bs.length * 1))[j]? = some (.int .u8 (bs[j].toNat:Nat)):=by
   rw [htake]
   simp [bcells,hj]
  rw [List.getElem?_take,if_pos (by omega),List.getElem?_drop]at h1
  simpa using h1
theorem bytes_any {S:Nat→Prop} {p:Nat} {bs:List UInt8} (w:World) (h:Wr w S p bs) :
  Calls Tryz.prog 151 #[pt p] w fun e w'=>e = .returned (.string ⟨bs.toArray⟩)∧w=w':=by
 obtain ⟨hp,v,R,hb,hsl,hpR,hR⟩:=h
 have hc:=cell_of hb 0 _ rfl
 have hlt:=lt_of_block hb
 have hbk:=sl_back hsl
 clear hp hpR hR hb hsl
 go_enter Tryz.func151,Tryz.ntmps151
 go_wp2
 go_ret
 exact ⟨rfl,rfl⟩
end Go.Proofs.YtofcogekgcgjhaaGreatDoor
namespace Go.Proofs.YtofcogekgcgjhaaGreatDoor.Ch
open Go.RowKit Go.Mine
abbrev Ln:=Int×Int×Nat
abbrev lnv (x:Ln):Value:=.agg #[.int .i64 x.1,.int .i64 x.2.1,.int .u32 (x.2.2:Nat)]
def I64 (n:Int):Prop:=-9223372036854775808≤n∧n≤9223372036854775807
def LnIs (w:World) (a:Option Addr) (cap:Nat) (l:List Ln):Prop:=
 l.length≤cap∧cap≤maxLen∧(∀ x∈l,I64 x.1∧I64 x.2.1∧x.2.2<4294967296)∧(0<l.length→∃ b off,a=some ⟨b,off,none⟩∧b<w.heap.size ∧
  ∀ i x,l[i]? = some x→w.cell? ⟨b,off+i * 3,none⟩=some (.int .i64 x.1)∧w.cell? ⟨b,off+i * 3+1,none⟩=some (.int .i64 x.2.1)∧w.cell? ⟨b,off+i * 3+2,none⟩=some (.int .u32 (x.2.2:Nat)))
theorem LnIs.turned {w w' : World} {a:Option Addr} {cap:Nat} {l:List Ln} (h:LnIs w a cap l) (ht:Turned (fun _=>False) w w'):LnIs w' a cap l:=by
 refine ⟨h.1,h.2.1,h.2.2.1,fun h0=>?_⟩
 obtain ⟨b,off,h1,h2,h3⟩:=h.2.2.2 h0
 refine ⟨b,off,h1,Nat.lt_of_lt_of_le h2 ht.size,fun i x hi=>?_⟩
 have hb:=fun o=>World.cell?_of_block (w:=w) (w':=w') (a:=⟨b,o,none⟩) (ht.block b h2 fun q=>q)
 rw [hb,hb,hb]
 exact h3 i x hi
theorem lnIs_any {w:World} {a:Option Addr} {cap:Nat} {l:List Ln} (h:LnIs w a cap l) (j:Nat) (x:Ln) (hx:l[j]? = some x) :
  ∃ b off,a=some ⟨b,off,none⟩∧b<w.heap.size∧w.cell? ⟨b,off+j * 3,none⟩=some (.int .i64 x.1)∧w.cell? ⟨b,off+j * 3+1,none⟩=some (.int .i64 x.2.1)∧w.cell? ⟨b,off+j * 3+2,none⟩=some (.int .u32 (x.2.2:Nat)):=by
 have hj:=(List.getElem?_eq_some_iff.1 hx).1
 obtain ⟨b,off,h1,h2,h3⟩:=h.2.2.2 (by omega)
 exact ⟨b,off,h1,h2,h3 j x hx⟩
def numb (n:Int):Bool:=decide (0≤n) && decide (n≤1073741824)
theorem numbered_any (n:Int) (w:World):Calls Tryz.prog 212 #[.int .i64 n] w fun e w'=>e = .returned (.bool (numb n))∧w=w':=by
 unfold numb
 by_cases h:0≤n
 ·have hd : decide (0 ≤ n) = true := by simp [h]
  rw [hd,Bool.true_and]
  go_enter Tryz.func212,Tryz.ntmps212
  go_wp2
  go_ret
  exact ⟨rfl,rfl⟩
 ·have hd : decide (0 ≤ n) = false := by simp [h]
  rw [hd,Bool.false_and]
  go_enter Tryz.func212,Tryz.ntmps212
  go_wp2
  go_ret
  exact ⟨rfl,rfl⟩
theorem lsame_any (x d:Ln) (p:Nat) (w:World) (hx:w.cell? ⟨p,0,none⟩=some (.int .i64 d.1)) :
  Calls Tryz.prog 213 #[lnv x,pt p] w fun e w'=>e = .returned (.bool (x.1 == d.1))∧Turned (fun _=>False) w w':=by
 have hlt:=lt_of_cell hx
 go_enter Tryz.func213,Tryz.ntmps213
 go_wp2
 go_ret
 exact ⟨by rfl,Turned.alloc _ _ _⟩
def hasLn (l:List Ln) (n:Int):Bool:=l.any (fun x=>x.1 == n)
def LIdxRel (w:World) (l:List Ln) (n:Int) (g:Nat) (i:Value) (wr:World):Prop:=
 ∃ j:Nat,j+g=l.length∧i = .int .i64 j∧(∀ t d,t<j→l[t]? = some d→d.1≠n)∧Turned (fun _=>False) w wr
def LIdxPost (w:World) (l:List Ln) (n:Int) (e:Ending) (w' : World):Prop:=
 Turned (fun _=>False) w w'∧((hasLn l n=false∧e = .returned (.int .i64 (-1)))∨(hasLn l n=true∧∃ j:Nat,e = .returned (.int .i64 j)))
set_option maxHeartbeats 1000000 in
theorem lindex_any (a:Option Addr) (cap p:Nat) (l:List Ln) (d:Ln) (w:World) (h:LnIs w a cap l) (hx:w.cell? ⟨p,0,none⟩=some (.int .i64 d.1)) :
  Calls Tryz.prog 230 #[.slice a l.length cap,.func (.func 213) #[] #[pt p]] w (LIdxPost w l d.1):=by
 have H:Hid (LnIs w a cap l):=h
 have HX:Hid (w.cell? ⟨p,0,none⟩=some (.int .i64 d.1)):=hx
 obtain ⟨L,hL⟩:∃ L,L=l.length:=⟨_,rfl⟩
 have HL:Hid (L=l.length):=hL
 rw [←hL]
 have hcap:Hid (L≤9223372036854775807):=(by rw [hL];have:=h.1;have:=h.2.1;simp only [maxLen]at this;omega:L≤9223372036854775807)
 clear h hL hx
 go_enter Tryz.func230,Tryz.ntmps230
 go_wp2
 have HS:Hid (LIdxRel w l d.1 L (.int .i64 0) w):=⟨0,by rw [HL.out,Nat.zero_add],rfl,fun t d ht=>by omega,Turned.refl _ _⟩
 go_loopg [8] L (fun g i wr=>LIdxRel w l d.1 g i wr)
 case atStart=>exact HS.out
 case round=>
  obtain ⟨j,hjg,rfl,hno,ht⟩:=hrel
  have N:Hid (∀ t e,t<j→l[t]? = some e→e.1≠d.1):=hno
  have T:Hid (Turned (fun _=>False) w wr):=ht
  have G:Hid (j+gk=l.length):=hjg
  clear hno ht hjg HS
  by_cases hlt:j<L
  ·obtain ⟨c, hc⟩ : ∃ c, l[j]? = some c := ⟨_, List.getElem?_eq_getElem (by rw [← HL.out]; exact hlt)⟩
   obtain ⟨b,off,rfl,hbw,c0,c1,c2⟩:=lnIs_any (H.out.turned T.out) j c hc
   have hw:wrap64 ((j:Int)+1)=((j+1:Nat):Int):=by have:=hcap.out;simp [wrap64];omega
   have HW:Hid (wrap64 ((j:Int)+1)=((j+1:Nat):Int)):=hw
   have C:Hid (l[j]? = some c):=hc
   have hs:Calls Tryz.prog 213 #[lnv c,pt p] wr fun e w'=>e = .returned (.bool (c.1 == d.1))∧Turned (fun _=>False) wr w':=lsame_any c d p wr (by rw [World.cell?_of_block (w':=wr) (T.out.block p (lt_of_cell HX.out) fun q=>q)];exact HX.out)
   clear hc hw
   by_cases hid:c.1=d.1
   ·rw [show (c.1 == d.1) = true by simp [hid]] at hs
    have HI:Hid (c.1=d.1):=hid
    clear hid
    go_wp2_with (go_at_call 213;(with_reducible refine hs.mono ?_);rintro e w2 ⟨rfl,ht2⟩)
    go_ret
    refine ⟨T.out.trans ht2 fun _ _ q=>q,.inr ⟨?_,j,rfl⟩⟩
    unfold hasLn
    rw [List.any_eq_true]
    exact ⟨c,List.mem_of_getElem? C.out,by simpa using HI.out⟩
   ·rw [show (c.1 == d.1) = false by simp [hid]] at hs
    have HI:Hid (c.1≠d.1):=hid
    clear hid
    go_wp2_with (go_at_call 213;(with_reducible refine hs.mono ?_);rintro e w2 ⟨rfl,ht2⟩)
    go_roundg (gk - 1)
    case measure=>have:=G.out;have:=HL.out;omega
    case rel=>
     refine ⟨j+1,by have:=G.out;have:=HL.out;omega,by rw [HW.out],fun t e ht hd=>?_,T.out.trans ht2 fun _ _ q=>q⟩
     rcases Nat.lt_or_eq_of_le (Nat.le_of_lt_succ ht) with q|q
     ·exact N.out t e q hd
     ·rw [q,C.out]at hd;obtain rfl:=Option.some.inj hd;exact HI.out
  ·go_wp2
   go_ret
   refine ⟨T.out,.inl ⟨?_,rfl⟩⟩
   unfold hasLn
   rw [List.any_eq_false]
   intro c hc
   obtain ⟨t,ht⟩:=List.getElem?_of_mem hc
   have:=(List.getElem?_eq_some_iff.1 ht).1
   simpa using N.out t c (by have:=HL.out;omega) ht
set_option maxHeartbeats 1000000 in
theorem lcontains_any (a:Option Addr) (cap p:Nat) (l:List Ln) (d:Ln) (w:World) (h:LnIs w a cap l) (hx:w.cell? ⟨p,0,none⟩=some (.int .i64 d.1)) :
  Calls Tryz.prog 139 #[.slice a l.length cap,.func (.func 213) #[] #[pt p]] w fun e w'=>e = .returned (.bool (hasLn l d.1))∧Turned (fun _=>False) w w':=by
 have hi:=lindex_any a cap p l d w h hx
 clear h hx
 generalize hb:hasLn l d.1=b
 have B:Hid (hasLn l d.1=b):=hb
 clear hb
 go_enter Tryz.func139,Tryz.ntmps139
 go_wp2_with fail
 refine hi.mono ?_
 rintro e w1 ⟨ht,⟨h1,rfl⟩|⟨h1,j,rfl⟩⟩
 ·rw [B.out] at h1
  subst h1
  go_wp2
  go_ret
  exact ⟨rfl,ht⟩
 ·rw [B.out] at h1
  subst h1
  have hj:decide ((0:Int)≤(j:Int))=true:=by simp
  go_wp2
  go_ret
  exact ⟨rfl,ht⟩
def totLn:List Ln→Int
 | []=>0
 |x :: l=>x.2.1+totLn l
theorem totLn_append (a b:List Ln):totLn (a ++ b)=totLn a+totLn b:=by
 induction a with
 |nil=>simp [totLn]
 |cons x a ih=>simp only [List.cons_append,totLn,ih];omega
def TotRel (w:World) (l:List Ln) (g:Nat) (n i:Value) (wr:World):Prop:=
 ∃ j:Nat,j+g=l.length∧i = .int .i64 j∧n = .int .i64 (totLn (l.take j))∧Turned (fun _=>False) w wr
set_option maxHeartbeats 1000000 in
theorem total_any (a:Option Addr) (cap:Nat) (l:List Ln) (w:World) (h:LnIs w a cap l) (hb:∀ j,I64 (totLn (l.take j))) (hl:l.length≤100000) :
  Calls Tryz.prog 58 #[.slice a l.length cap] w fun e w'=>e = .returned (.int .i64 (totLn l))∧Turned (fun _=>False) w w':=by
 have H:Hid (LnIs w a cap l):=h
 have HB:Hid (∀ j,I64 (totLn (l.take j))):=hb
 obtain ⟨L,hL⟩:∃ L,L=l.length:=⟨_,rfl⟩
 have HL:Hid (L=l.length∧L≤100000):=⟨hL,by omega⟩
 rw [←hL]
 clear h hb hL hl
 go_enter Tryz.func58,Tryz.ntmps58
 go_wp2
 go_loopg [3,8] L (fun g n i wr=>TotRel w l g n i wr)
 case atStart=>exact ⟨0,by have:=HL.out.1;omega,rfl,rfl,Turned.refl _ _⟩
 case round=>
  obtain ⟨j,hjg,rfl,rfl,ht⟩:=hrel
  have T:Hid (Turned (fun _=>False) w wr):=ht
  have G:Hid (j+gk=l.length):=hjg
  clear ht hjg
  by_cases hlt:j<L
  ·obtain ⟨c, hc⟩ : ∃ c, l[j]? = some c := ⟨_, List.getElem?_eq_getElem (by rw [← HL.out.1]; exact hlt)⟩
   obtain ⟨b,off,rfl,hbw,c0,c1,c2⟩:=lnIs_any (H.out.turned T.out) j c hc
   have ht1:totLn (l.take (j+1))=totLn (l.take j)+c.2.1:=by rw [List.take_add_one,hc,totLn_append];simp [totLn]
   have hbb:=HB.out (j+1)
   have HT:Hid (wrap64 (totLn (l.take j)+c.2.1)=totLn (l.take (j+1))):=by
    have:wrap64 (totLn (l.take j)+c.2.1)=totLn (l.take (j+1)):=by rw [ht1]at hbb ⊢;unfold I64 at hbb;simp only [wrap64];omega
    exact this
   clear hc ht1 hbb
   generalize totLn (l.take j)=n at *
   go_wp2
   go_roundg (gk - 1)
   case measure=>have:=G.out;have:=HL.out;omega
   case rel=>exact ⟨j+1,by have:=G.out;have:=HL.out;omega,by have:=HL.out;simp [wrap64];omega,by rw [HT.out],T.out.new _⟩
  ·have hj : j = L := by have := G.out; have := HL.out; omega
   subst hj
   have HE:Hid (l.take j=l):=List.take_of_length_le (by have:=HL.out.1;omega)
   go_wp2
   go_ret
   exact ⟨by rw [HE.out];rfl,T.out⟩
theorem prefix_any (t m:ByteArray) (w:World) (hm:m.size≤t.size) (hs:t.size≤4611686018427387904) :
  Calls Tryz.prog 121 #[.string t,.string m] w fun e w'=>e = .returned (.bool (decide (t.extract 0 m.size=m)))∧w=w':=by
 have hin:Calls Tryz.prog 205 #[.string t,.string m] w fun e w'=>e = .returned (.bool (decide (t.extract 0 m.size=m)))∧w=w':=by
  have hd:decide ((m.size:Int)≤(t.size:Int))=true:=by simp;omega
  have hd2:decide (m.size≤t.size)=true:=by simp;omega
  have hsl:∀ W,(Instr.slice 9 (.string t) none (some (.int .i64 (m.size:Nat))) none).run Tryz.prog W = .ok (.string (t.extract 0 m.size)) W:=fun W=>by
   have:=run_slice_string_h (P:=Tryz.prog) W 9 t Tryz.underlying9 .i64 (m.size:Nat) (by omega) (by omega)
   rw [Int.toNat_natCast]at this
   exact this
  generalize t.extract 0 m.size=f at *
  by_cases hf:f=m
  ·subst hf
   clear hm hs
   go_enter Tryz.func205,Tryz.ntmps205
   go_wp2
   go_ret
   exact ⟨by simp,rfl⟩
  ·rw [show decide (f = m) = false by simp [hf]]
   have hne:(f.toList == m.toList)=false:=by
    rw [ByteArray.toList_eq,ByteArray.toList_eq]
    simp only [beq_eq_false_iff_ne,ne_eq]
    intro q
    exact hf (ByteArray.ext (Array.toList_inj.1 q))
   clear hm hs hf
   go_enter Tryz.func205,Tryz.ntmps205
   go_wp2
   go_ret
   exact ⟨rfl,rfl⟩
 generalize decide (t.extract 0 m.size=m)=b at *
 go_enter Tryz.func121,Tryz.ntmps121
 go_wp2_with (go_at_call 205;(with_reducible refine hin.mono ?_);rintro e w1 ⟨rfl,rfl⟩)
 go_ret
 exact ⟨rfl,rfl⟩
end Go.Proofs.YtofcogekgcgjhaaGreatDoor.Ch
namespace Go.Proofs.YtofcogekgcgjhaaGreatDoor
open Go.RowKit Go.Mine
def RdIs (w:World) (p:Nat) (s:ByteArray) (st:Nat×Nat):Prop:=
 Blk w p #[.string s,.int .i64 (st.1:Nat),.int .i64 (st.2:Nat)] 264
theorem RdIs.turned {w w' : World} {p:Nat} {s:ByteArray} {st:Nat×Nat} {S:Nat→Prop} (h:RdIs w p s st) (ht:Turned S w w') (hp:¬ S p):RdIs w' p s st:=Blk.turned h ht hp
theorem newReader_any (s:ByteArray) (w:World):Calls Tryz.prog 122 #[.string s] w fun e w'=>e = .returned (pt w.heap.size)∧RdIs w' w.heap.size s (0,0)∧Turned (fun _=>False) w w'∧w'.heap.size=w.heap.size+1:=by
 go_enter Tryz.func122,Tryz.ntmps122
 go_wp2
 go_ret
 refine ⟨rfl,?_,by simpa using Turned.alloc (fun _=>False) w _,by simp⟩
 exact heap_alloc_last w _
theorem err_r {w:World} {p:Nat} {s:ByteArray} {st:Nat×Nat} (h:RdIs w p s st):Calls Tryz.prog 211 #[pt p] w fun x w'=>x = .returned (.int .i64 (st.2:Nat))∧w=w':=by
 have c2:=cell_of h 2 _ rfl
 have hlt:=lt_of_block h
 clear h
 go_enter Tryz.func211,Tryz.ntmps211
 go_wp2
 go_ret
 exact ⟨rfl,rfl⟩
theorem setErr {w:World} {p:Nat} {s:ByteArray} {a e:Nat} (h:RdIs w p s (a,e)) (k:Nat):RdIs (w.setCell ⟨p,2,none⟩ (.int .i64 (k:Nat))) p s (a,k):=by
 have:=Go.Mine.heap_setCell_same (o:=2) h (.int .i64 (k:Nat))
 exact this
theorem fail_r {w:World} {p:Nat} {s:ByteArray} {a:Nat} (h:RdIs w p s (a,0)) (k:Nat):Calls Tryz.prog 210 #[pt p,.int .i64 (k:Nat)] w fun x w'=>x = .returned (.int .i64 (k:Nat))∧RdIs w' p s (a,k)∧Turned (· = p) w w':=by
 have H:Hid (RdIs w p s (a,0)):=h
 have c2:=cell_of h 2 _ rfl
 have f2:=free_of h 2
 have hlt:=lt_of_block h
 clear h
 go_enter Tryz.func210,Tryz.ntmps210
 go_wp2
 go_ret
 exact ⟨rfl,setErr H.out k,Turned.setCell (S:=(· = p)) (p:=⟨p,2,none⟩) rfl _⟩
theorem left_r {w:World} {p:Nat} {s:ByteArray} {st:Nat×Nat} (h:RdIs w p s st) (hat:st.1≤s.size) (hs:s.size≤4611686018427387904):Calls Tryz.prog 209 #[pt p] w fun x w'=>x = .returned (.int .i64 ((s.size - st.1:Nat):Int))∧w'=w.drew:=by
 have c0:=cell_of h 0 _ rfl
 have c1:=cell_of h 1 _ rfl
 have hlt:=lt_of_block h
 have hw:wrap64 ((s.size:Int) - (st.1:Int))=((s.size - st.1:Nat):Int):=by simp [wrap64];omega
 have HW:Hid (wrap64 ((s.size:Int) - (st.1:Int))=((s.size - st.1:Nat):Int)):=hw
 clear h hs hat hw
 go_enter Tryz.func209,Tryz.ntmps209
 go_wp2
 go_region
 all_goals go_wp2
 all_goals go_ret
 all_goals exact ⟨by rw [HW.out];rfl,rfl⟩
def RawPost (w:World) (p:Nat) (s:ByteArray) (st:Nat×Nat) (n:Nat) (e:Ending) (w' : World):Prop:=
 e = .returned (.tuple #[.string (rdRaw s st n).1,.int .i64 ((rdRaw s st n).2.2:Nat)])∧RdIs w' p s (rdRaw s st n).2∧Turned (· = p) w w'
theorem setAt {w:World} {p:Nat} {s:ByteArray} {a e:Nat} (h:RdIs w p s (a,e)) (k:Nat):RdIs (w.setCell ⟨p,1,none⟩ (.int .i64 (k:Nat))) p s (k,e):=by
 have:=Go.Mine.heap_setCell_same (o:=1) h (.int .i64 (k:Nat))
 exact this
set_option maxHeartbeats 1000000 in
theorem raw_r {w:World} {p:Nat} {s:ByteArray} {st:Nat×Nat} (n:Nat) (h:RdIs w p s st) (hat:st.1≤s.size) (hs:s.size≤4611686018427387904) (hn:n≤4611686018427387904):Calls Tryz.prog 284 #[pt p,.int .i64 (n:Nat)] w (RawPost w p s st n):=by
 obtain ⟨a,e⟩:=st
 have H:Hid (RdIs w p s (a,e)):=h
 have c0:=cell_of h 0 _ rfl
 have c1:=cell_of h 1 _ rfl
 have c2:=cell_of h 2 _ rfl
 have f1:=free_of h 1
 have hlt:=lt_of_block h
 have he:=err_r h
 have hl:=left_r h hat hs
 have hf:=fail_r (w:=w.drew) (p:=p) (s:=s) (a:=a) (k:=2)
 simp only [List.getElem_toArray,List.getElem_cons_zero,List.getElem_cons_succ]at c0 c1 c2 he hl
 by_cases h0:e=0
 ·subst h0
  have hd0:decide ((n:Int)<0)=false:=by simp
  by_cases h1:a+n≤s.size
  ·have E : Hid (rdRaw s (a, 0) n = (s.extract a (a + n), (a + n, 0))) := rdRaw_good s a n h1
   have hd:decide (((s.size - a:Nat):Int)<(n:Int))=false:=by simp at hat ⊢;omega
   have hd1:decide (s.size - a<n)=false:=by simp at hat ⊢;omega
   have hw:wrap64 ((a:Int)+(n:Int))=((a+n:Nat):Int):=by simp [wrap64];omega
   have HW:Hid (wrap64 ((a:Int)+(n:Int))=((a+n:Nat):Int)):=hw
   have hsl:∀ W,(Instr.slice 9 (.string s) (some (.int .i64 (a:Nat))) (some (.int .i64 (wrap64 ((a:Int)+(n:Int))))) none).run Tryz.prog W = .ok (.string (s.extract a (a+n))) W:=by
    intro W
    rw [hw]
    have:=run_slice_string (P:=Tryz.prog) W 9 s .i64 .i64 a ((a+n:Nat):Int) Tryz.underlying9 (by omega) (by omega) (by omega)
    rw [Int.toNat_natCast,Int.toNat_natCast]at this
    exact this
   clear hf he h hs hn hat h1 hw
   go_enter Tryz.func284,Tryz.ntmps284
   go_wp2_with (go_at_call 209;(with_reducible refine hl.mono ?_);rintro e w' ⟨rfl,rfl⟩)
   go_region
   all_goals go_wp2
   all_goals go_ret2
   all_goals
    have hst:RdIs (w.setCell ⟨p,1,none⟩ (.int .i64 (wrap64 ((a:Int)+(n:Int))))) p s (a+n,0):=by rw [HW.out];exact setAt H.out (a+n)
    refine ⟨by rw [E.out];rfl,by rw [E.out];exact hst,?_⟩
    exact (((Turned.setCell (S:=(· = p)) (p:=⟨p,1,none⟩) rfl _).trans (Turned.drew _ _) fun _ _ q=>q).trans (Turned.drew _ _) fun _ _ q=>q)
  ·have E : Hid (rdRaw s (a, 0) n = (⟨#[]⟩, (a, 2))) := rdRaw_short s a n (by omega)
   have hd:decide (((s.size - a:Nat):Int)<(n:Int))=true:=by simp at hat ⊢;omega
   have hd1:decide (s.size - a<n)=true:=by simp at hat ⊢;omega
   have hf2:Calls Tryz.prog 210 #[pt p,.int .i64 2] w.drew fun x w'=>x = .returned (.int .i64 2)∧RdIs w' p s (a,2)∧Turned (· = p) w.drew w':=hf h
   clear hf he h hs hn hat h1
   go_enter Tryz.func284,Tryz.ntmps284
   go_wp2_with (first|(go_at_call 209;(with_reducible refine hl.mono ?_);rintro e w' ⟨rfl,rfl⟩)|(go_at_call 210;(with_reducible refine hf2.mono ?_);rintro e w' ⟨rfl,hr,ht⟩))
   go_ret2
   exact ⟨by rw [E.out];rfl,by rw [E.out];exact hr,(Turned.drew _ _).trans ht fun _ _ q=>q⟩
 ·have E : Hid (rdRaw s (a, e) n = (⟨#[]⟩, (a, e))) := rdRaw_bad s _ n h0
  have hd:decide ((e:Int)=0)=false:=by simp;omega
  clear hf h hs hn hat hl
  go_enter Tryz.func284,Tryz.ntmps284
  go_wp2_with (go_at_call 211;(with_reducible refine he.mono ?_);rintro e w' ⟨rfl,rfl⟩)
  go_ret2
  exact ⟨by rw [E.out];rfl,by rw [E.out];exact H.out,Turned.refl _ _⟩
def NumPost (w:World) (p:Nat) (s:ByteArray) (st:Nat×Nat) (n:Nat) (k:IntKind) (e:Ending) (w' : World):Prop:=
 e = .returned (.tuple #[.int k ((rdNum s st n).1:Nat),.int .i64 ((rdNum s st n).2.2:Nat)])∧RdIs w' p s (rdNum s st n).2∧Turned (· = p) w w'
def FxRel (w1:World) (b:ByteArray) (g:Nat) (v x i:Value) (wr:World):Prop:=
 ∃ j:Nat,j+g=b.size∧i = .int .i64 j∧v = .int .u64 (unnum (b.data.toList.take j):Nat)∧w1=wr
theorem unnum_next (l:List UInt8) (j:Nat) (x:UInt8) (h:l[j]? = some x):unnum (l.take (j+1))=unnum (l.take j) * 256+x.toNat:=by
 rw [List.take_add_one,h]
 simp [unnum]
theorem or_step (v x:Nat) (hv:v<72057594037927936) (hx:x<256):bits .or .u64 (IntKind.u64.wrap ((v:Int) * 256)) (IntKind.u64.wrap (x:Int))=((v * 256+x:Nat):Int):=by
 have e1:IntKind.u64.wrap ((v:Int) * 256)=((v * 256:Nat):Int):=by simp [IntKind.wrap,IntKind.bits,IntKind.signed];omega
 have e2:IntKind.u64.wrap (x:Int)=(x:Int):=by simp [IntKind.wrap,IntKind.bits,IntKind.signed];omega
 rw [e1,e2,u64_or_nat _ _ (by omega) (by omega)]
 have:=Nat.two_pow_add_eq_or_of_lt (i:=8) (b:=x) (by omega) v
 rw [show 2 ^ 8 * v=v * 256 by omega]at this
 rw [this]
set_option maxHeartbeats 1000000 in
theorem fixed_r {w:World} {p:Nat} {s:ByteArray} {st:Nat×Nat} (n:Nat) (h:RdIs w p s st) (hat:st.1≤s.size) (hs:s.size≤4611686018427387904) (hn:n≤8):Calls Tryz.prog 206 #[pt p,.int .i64 (n:Nat)] w (NumPost w p s st n .u64):=by
 have hr:=raw_r n h hat hs (by omega)
 unfold NumPost rdNum
 unfold RawPost at hr
 have hz:=rdRaw_size s st n
 obtain ⟨b,hb⟩:∃ b,b=(rdRaw s st n).1:=⟨_,rfl⟩
 obtain ⟨st2,hst⟩:∃ q,q=(rdRaw s st n).2:=⟨_,rfl⟩
 rw [←hb]at hr hz ⊢
 rw [←hst]at hr ⊢
 have HZ:Hid (b.size≤8):=(by omega:b.size≤8)
 clear h hat hs hn hb hst hz
 go_enter Tryz.func206,Tryz.ntmps206
 go_wp2_with (go_at_call 284;(with_reducible refine hr.mono ?_);rintro e w1 ⟨rfl,hrd,ht⟩;obtain ⟨cap2,w2,hconv,ht2,hlt2,hcap2,hcell,-,-⟩:=bytes_of w1 b;have F:Hid (∀ j x,(nums b)[j]? = some x→w2.cell? ⟨w1.heap.size,j,none⟩=some (.int .u8 (x:Nat))):=hcell;have TT:Hid (RdIs w2 p s st2∧Turned (· = p) w w2):=⟨hrd.turned ht2 (fun q=>q),ht.trans ht2 fun _ _ q=>q.elim⟩;clear hcell hrd ht ht2;generalize w1.heap.size=g at hconv hlt2 F)
 go_loopg [8,10,20] b.size (fun g v x i wr=>FxRel w2 b g v x i wr)
 case atStart=>exact ⟨0,Nat.zero_add _,rfl,rfl,rfl⟩
 case round=>
  obtain ⟨j,hjg,rfl,rfl,rfl⟩:=hrel
  by_cases hlt:j<b.size
  ·obtain ⟨y, hy⟩ : ∃ y, b.data.toList[j]? = some y := ⟨_, List.getElem?_eq_getElem (by simpa using hlt)⟩
   have hl:=F.out j y.toNat (by simp [nums,hy])
   have hx:=or_step (unnum (b.data.toList.take j)) y.toNat (by
    have h1:=unnum_lt (b.data.toList.take j)
    have h2:(b.data.toList.take j).length≤7:=by have:=HZ.out;simp;omega
    exact Nat.lt_of_lt_of_le h1 (Nat.pow_le_pow_right (by decide) h2)) y.toNat_lt
   rw [←unnum_next _ _ _ hy]at hx
   have HX:Hid (bits .or .u64 (IntKind.u64.wrap (((unnum (b.data.toList.take j)):Int) * 256)) (IntKind.u64.wrap (y.toNat:Int))=_):=hx
   have HW:Hid (wrap64 ((j:Int)+1)=((j+1:Nat):Int)):=(by have:=HZ.out;simp [wrap64];omega:wrap64 ((j:Int)+1)=((j+1:Nat):Int))
   clear hx hy
   go_wp2
   go_roundg (gk - 1)
   case measure=>omega
   case rel=>exact ⟨j+1,by omega,by rw [HW.out],by rw [HX.out],rfl⟩
  ·have hj : j = b.size := by omega
   subst hj
   have HT:Hid (b.data.toList.take b.size=b.data.toList):=List.take_of_length_le (by simp)
   go_wp2
   go_ret2
   exact ⟨by rw [HT.out];rfl,TT.out.1,TT.out.2⟩
theorem u8_r {w:World} {p:Nat} {s:ByteArray} {st:Nat×Nat} (h:RdIs w p s st) (hat:st.1≤s.size) (hs:s.size≤4611686018427387904):Calls Tryz.prog 125 #[pt p] w (NumPost w p s st 1 .u8):=by
 have hr:Calls Tryz.prog 206 #[pt p,.int .i64 1] w (NumPost w p s st 1 .u64):=fixed_r 1 h hat hs (by omega)
 have hlt:=rdNum_lt s st 1
 unfold NumPost at hr ⊢
 generalize rdNum s st 1=q at *
 have hw:(q.1:Int) % 256=(q.1:Int):=by omega
 have HW:Hid ((q.1:Int) % 256=(q.1:Int)):=hw
 clear h hat hs hlt hw
 go_enter Tryz.func125,Tryz.ntmps125
 go_wp2_with (go_at_call 206;(with_reducible refine hr.mono ?_);rintro e w1 ⟨rfl,hrd,ht⟩)
 go_ret2
 exact ⟨by rw [HW.out];rfl,hrd,ht⟩
theorem u32_r {w:World} {p:Nat} {s:ByteArray} {st:Nat×Nat} (h:RdIs w p s st) (hat:st.1≤s.size) (hs:s.size≤4611686018427387904):Calls Tryz.prog 123 #[pt p] w (NumPost w p s st 4 .u32):=by
 have hr:Calls Tryz.prog 206 #[pt p,.int .i64 4] w (NumPost w p s st 4 .u64):=fixed_r 4 h hat hs (by omega)
 have hlt:=rdNum_lt s st 4
 unfold NumPost at hr ⊢
 generalize rdNum s st 4=q at *
 have hw:(q.1:Int) % 4294967296=(q.1:Int):=by omega
 have HW:Hid ((q.1:Int) % 4294967296=(q.1:Int)):=hw
 clear h hat hs hlt hw
 go_enter Tryz.func123,Tryz.ntmps123
 go_wp2_with (go_at_call 206;(with_reducible refine hr.mono ?_);rintro e w1 ⟨rfl,hrd,ht⟩)
 go_ret2
 exact ⟨by rw [HW.out];rfl,hrd,ht⟩
theorem fail_bad {w:World} {p:Nat} {s:ByteArray} {a e:Nat} (h:RdIs w p s (a,e)) (he:e≠0) (k:Nat):Calls Tryz.prog 210 #[pt p,.int .i64 (k:Nat)] w fun x w'=>x = .returned (.int .i64 (e:Nat))∧w=w':=by
 have c2:=cell_of h 2 _ rfl
 have f2:=free_of h 2
 have hlt:=lt_of_block h
 have hd:((e:Int) == 0)=false:=by simp;omega
 simp only [List.getElem_toArray,List.getElem_cons_zero,List.getElem_cons_succ]at c2
 clear h he
 go_enter Tryz.func210,Tryz.ntmps210
 go_wp2
 go_ret
 exact ⟨rfl,rfl⟩
theorem end_r {w:World} {p:Nat} {s:ByteArray} {st:Nat×Nat} (h:RdIs w p s st) (hat:st.1≤s.size) (hs:s.size≤4611686018427387904) :
  Calls Tryz.prog 126 #[pt p] w fun x w'=>∃ k:Nat,x = .returned (.int .i64 k)∧(k=0↔(st.2=0∧s.size≤st.1))∧Turned (· = p) w w':=by
 obtain ⟨a,e⟩:=st
 have hl:=left_r h hat hs
 have he:Calls Tryz.prog 211 #[pt p] w.drew fun x w'=>x = .returned (.int .i64 (e:Nat))∧w.drew=w':=err_r (w:=w.drew) h
 have hf:=fail_r (w:=w.drew) (p:=p) (s:=s) (a:=a) (k:=3)
 have hb:=fail_bad (w:=w.drew) (p:=p) (s:=s) (a:=a) (e:=e) (k:=3)
 by_cases hz:s.size≤a
 ·have hd : decide (0 < s.size - a) = false := by simp; omega
  have HZ:Hid (s.size≤a):=hz
  clear hf hb h hat hs hz
  go_enter Tryz.func126,Tryz.ntmps126
  go_wp2_with (first|(go_at_call 209;(with_reducible refine hl.mono ?_);rintro e w' ⟨rfl,rfl⟩)|(go_at_call 211;(with_reducible refine he.mono ?_);rintro e w' ⟨rfl,rfl⟩))
  go_ret
  exact ⟨e,rfl,⟨fun q=>⟨q,HZ.out⟩,fun q=>q.1⟩,Turned.drew _ _⟩
 ·have hd : decide (0 < s.size - a) = true := by simp; omega
  have HZ:Hid (¬ s.size≤a):=hz
  by_cases h0:e=0
  ·subst h0
   have hf2:Calls Tryz.prog 210 #[pt p,.int .i64 3] w.drew _:=hf h
   clear hf hb h hat hs hz he
   go_enter Tryz.func126,Tryz.ntmps126
   go_wp2_with (first|(go_at_call 209;(with_reducible refine hl.mono ?_);rintro e w' ⟨rfl,rfl⟩)|(go_at_call 210;(with_reducible refine hf2.mono ?_);rintro e w' ⟨rfl,hr,ht⟩))
   go_ret
   exact ⟨3,rfl,⟨fun q=>by omega,fun q=>absurd q.2 HZ.out⟩,(Turned.drew _ _).trans ht fun _ _ q=>q⟩
  ·have hf2 : Calls Tryz.prog 210 #[pt p, .int .i64 3] w.drew _ := hb h h0
   have H0:Hid (e≠0):=h0
   clear hf hb h hat hs hz he h0
   go_enter Tryz.func126,Tryz.ntmps126
   go_wp2_with (first|(go_at_call 209;(with_reducible refine hl.mono ?_);rintro e w' ⟨rfl,rfl⟩)|(go_at_call 210;(with_reducible refine hf2.mono ?_);rintro e w' ⟨rfl,rfl⟩))
   go_ret
   exact ⟨e,rfl,⟨fun q=>absurd q H0.out,fun q=>absurd q.2 HZ.out⟩,Turned.drew _ _⟩
abbrev Ch:=Nat×ByteArray
def ChIs (w:World) (a:Option Addr) (cap:Nat) (l:List Ch):Prop:=
 l.length≤cap∧cap≤maxLen∧(∀ c∈l,c.1<4294967296∧c.2.size≤140737488355328)∧(0<l.length→∃ b off,a=some ⟨b,off,none⟩∧b<w.heap.size ∧
  ∀ i c,l[i]? = some c→w.cell? ⟨b,off+i * 2,none⟩=some (.int .u32 (c.1:Nat))∧w.cell? ⟨b,off+i * 2+1,none⟩=some (.string c.2))
theorem ChIs.turned {w w' : World} {a:Option Addr} {cap:Nat} {l:List Ch} (h:ChIs w a cap l) (ht:Turned (fun _=>False) w w'):ChIs w' a cap l:=by
 refine ⟨h.1,h.2.1,h.2.2.1,fun h0=>?_⟩
 obtain ⟨b,off,h1,h2,h3⟩:=h.2.2.2 h0
 refine ⟨b,off,h1,Nat.lt_of_lt_of_le h2 ht.size,fun i c hi=>?_⟩
 rw [World.cell?_of_block (w':=w') (ht.block b h2 fun q=>q),World.cell?_of_block (w':=w') (ht.block b h2 fun q=>q)]
 exact h3 i c hi
def findCh (l:List Ch) (id:Nat):Option Ch:=l.find? (fun c=>decide (c.1=id))
def foundV (o:Option Ch):Value:=.tuple #[.string (match o with|some c=>c.2|none=>⟨#[]⟩),.bool o.isSome]
theorem findCh_none {l:List Ch} {id:Nat} (h:∀ c∈l,c.1≠id):findCh l id=none:=by
 unfold findCh
 rw [List.find?_eq_none]
 intro c hc
 simpa using h c hc
theorem findCh_at {l:List Ch} {id:Nat} (j:Nat) (c:Ch) (hc:l[j]? = some c) (h:∀ i d,i<j→l[i]? = some d→d.1≠id) (hid:c.1=id):findCh l id=some c:=by
 unfold findCh
 have hj:=(List.getElem?_eq_some_iff.1 hc).1
 have hsplit:l=l.take j ++ c :: l.drop (j+1):=by
  have h2:=List.drop_eq_getElem_cons hj
  have h3:=(List.getElem?_eq_some_iff.1 hc).2
  rw [h3]at h2
  rw [←h2,List.take_append_drop]
 rw [hsplit,List.find?_append]
 have h1:(l.take j).find? (fun c=>decide (c.1=id))=none:=by
  rw [List.find?_eq_none]
  intro d hd
  obtain ⟨i,hi⟩:=List.getElem?_of_mem hd
  have hlt:i<j:=by
   have:=(List.getElem?_eq_some_iff.1 hi).1
   rw [List.length_take]at this;omega
  rw [List.getElem?_take,if_pos hlt]at hi
  simpa using h i d hlt hi
 rw [h1]
 simp [hid]
def FindRel (w:World) (l:List Ch) (id:Nat) (g:Nat) (i:Value) (wr:World):Prop:=
 ∃ j:Nat,j+g=l.length∧i = .int .i64 j∧(∀ t d,t<j→l[t]? = some d→d.1≠id)∧Turned (fun _=>False) w wr
set_option maxHeartbeats 1000000 in
theorem find_any (a:Option Addr) (cap:Nat) (l:List Ch) (id:Nat) (w:World) (h:ChIs w a cap l) :
  Calls Tryz.prog 289 #[.slice a l.length cap,.int .u32 id] w fun e w'=>e = .returned (foundV (findCh l id))∧Turned (fun _=>False) w w':=by
 have H:Hid (ChIs w a cap l):=h
 obtain ⟨L,hL⟩:∃ L,L=l.length:=⟨_,rfl⟩
 have HL:Hid (L=l.length):=hL
 rw [←hL]
 have hcap:Hid (L≤9223372036854775807):=(by rw [hL];have:=h.1;have:=h.2.1;simp only [maxLen]at this;omega:L≤9223372036854775807)
 clear h hL
 go_enter Tryz.func289,Tryz.ntmps289
 go_wp2
 have HS:Hid (FindRel w l id L (.int .i64 0) w):=⟨0,by rw [HL.out,Nat.zero_add],rfl,fun t d ht=>by omega,Turned.refl _ _⟩
 go_loopg [10] L (fun g i wr=>FindRel w l id g i wr)
 case atStart=>exact HS.out
 case round=>
  obtain ⟨j,hjg,rfl,hno,ht⟩:=hrel
  have N:Hid (∀ t d,t<j→l[t]? = some d→d.1≠id):=hno
  have T:Hid (Turned (fun _=>False) w wr):=ht
  have G:Hid (j+gk=l.length):=hjg
  clear hno ht hjg HS
  by_cases hlt:j<L
  ·obtain ⟨c, hc⟩ : ∃ c, l[j]? = some c := ⟨_, List.getElem?_eq_getElem (by rw [← HL.out]; exact hlt)⟩
   obtain ⟨b,off,rfl,hbw,hel⟩:=(H.out.turned T.out).2.2.2 (by rw [←HL.out];omega)
   obtain ⟨c0,c1⟩:=hel j c hc
   have hw:wrap64 ((j:Int)+1)=((j+1:Nat):Int):=by have:=hcap.out;simp [wrap64];omega
   have HW:Hid (wrap64 ((j:Int)+1)=((j+1:Nat):Int)):=hw
   have C:Hid (l[j]? = some c):=hc
   clear hc hel hw
   by_cases hid:c.1=id
   ·subst hid
    go_wp2
    go_ret2
    refine ⟨?_,T.out.trans (Turned.alloc _ _ _) fun _ _ q=>q⟩
    rw [findCh_at j c C.out N.out rfl]
    rfl
   ·have hne : ((c.1 : Int) = (id : Int)) = False := by apply propext; exact ⟨fun q => hid (by omega), fun q => q.elim⟩
    go_wp2
    go_roundg (gk - 1)
    case measure=>have:=G.out;have:=HL.out;omega
    case rel=>
     refine ⟨j+1,by have:=G.out;have:=HL.out;omega,by rw [HW.out],fun t d ht hd=>?_,T.out.trans (Turned.alloc _ _ _) fun _ _ q=>q⟩
     rcases Nat.lt_or_eq_of_le (Nat.le_of_lt_succ ht) with q|q
     ·exact N.out t d q hd
     ·rw [q,C.out]at hd;obtain rfl:=Option.some.inj hd;exact hid
  ·go_wp2
   go_ret2
   refine ⟨?_,T.out⟩
   rw [findCh_none fun c hc=>?_]
   ·rfl
   ·obtain ⟨t, ht⟩ := List.getElem?_of_mem hc
    have:=(List.getElem?_eq_some_iff.1 ht).1
    exact N.out t c (by have:=HL.out;omega) ht
def cmpV (a b:Nat):Int:=if a<b then -1 else if b<a then 1 else 0
theorem nan_any (a:Nat) (w:World):Calls Tryz.prog 333 #[.int .u32 a] w fun e w'=>e = .returned (.bool false)∧w=w':=by
 go_enter Tryz.func333,Tryz.ntmps333
 go_wp2
 go_ret
 exact ⟨rfl,rfl⟩
set_option maxHeartbeats 1000000 in
theorem compare_any (a b:Nat) (w:World):Calls Tryz.prog 302 #[.int .u32 a,.int .u32 b] w fun e w'=>e = .returned (.int .i64 (cmpV a b))∧w=w':=by
 have hn:=fun c=>nan_any c w
 rcases Nat.lt_trichotomy a b with h|h|h
 ·have e1 : cmpV a b = -1 := by simp [cmpV, h]
  rw [e1]
  clear e1
  go_enter Tryz.func302,Tryz.ntmps302
  go_wp2_with (go_at_call 333;(with_reducible refine (hn _).mono ?_);rintro e w' ⟨rfl,rfl⟩)
  go_ret
  exact ⟨rfl,rfl⟩
 ·subst h
  have e1:cmpV a a=0:=by simp [cmpV]
  rw [e1]
  clear e1
  go_enter Tryz.func302,Tryz.ntmps302
  go_wp2_with (go_at_call 333;(with_reducible refine (hn _).mono ?_);rintro e w' ⟨rfl,rfl⟩)
  go_ret
  exact ⟨rfl,rfl⟩
 ·have e1 : cmpV a b = 1 := by simp [cmpV, h]; omega
  have h2:¬ a<b:=by omega
  rw [e1]
  clear e1
  go_enter Tryz.func302,Tryz.ntmps302
  go_wp2_with (go_at_call 333;(with_reducible refine (hn _).mono ?_);rintro e w' ⟨rfl,rfl⟩)
  go_ret
  exact ⟨rfl,rfl⟩
end Go.Proofs.YtofcogekgcgjhaaGreatDoor
