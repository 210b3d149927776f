/- Packed. -/
import Derived.Test.YtofcogekgcgjhaaGreatDoorZzaj
import Derived.BigQuiet
import Derived.IntWalk
set_option linter.unusedVariables false
set_option linter.unusedSimpArgs false
set_option maxRecDepth 100000
namespace Go.Proofs.YtofcogekgcgjhaaGreatDoor
open Go.RowKit Go.Mine
def I64 (x:Int):Prop:=-9223372036854775808≤x∧x≤9223372036854775807
structure Rw where
 par:List Int
 tree:Int
 gen:Int
 state:Int
 bits:ByteArray
structure Gr where
 base:Int
 h:Int
 p:Int
 m:Int
 seed:Nat
 rows:List Rw
def Ints (w:World) (S:Nat→Prop) (a:Option Addr) (cap:Nat) (l:List Int):Prop:=
 l.length≤cap∧cap≤maxLen∧(∀ x∈l,I64 x) ∧
  (0<l.length→∃ g off,a=some ⟨g,off,none⟩∧S g∧g<w.heap.size∧∀ (i:Nat) (x:Int),l[i]? = some x→w.cell? ⟨g,off+i,none⟩=some (.int .i64 x))
theorem Ints.turned {w w' : World} {S T:Nat→Prop} {a:Option Addr} {cap:Nat} {l:List Int} (h:Ints w S a cap l) (ht:Turned T w w') (hS:∀ b,S b→¬ T b):Ints w' S a cap l:=by
 obtain ⟨h1,h2,h3,h4⟩:=h
 refine ⟨h1,h2,h3,fun q=>?_⟩
 obtain ⟨g,off,rfl,hg,hl,hc⟩:=h4 q
 refine ⟨g,off,rfl,hg,by have:=ht.size;omega,fun i x hx=>?_⟩
 rw [World.cell?_of_block (w':=w') (ht.block g hl (hS g hg))]
 exact hc i x hx
theorem Ints.mono {w:World} {S T:Nat→Prop} {a:Option Addr} {cap:Nat} {l:List Int} (h:Ints w S a cap l) (hS:∀ b,S b→T b):Ints w T a cap l:=by
 obtain ⟨h1,h2,h3,h4⟩:=h
 refine ⟨h1,h2,h3,fun q=>?_⟩
 obtain ⟨g,off,rfl,hg,hl,hc⟩:=h4 q
 exact ⟨g,off,rfl,hS g hg,hl,hc⟩
theorem Ints.take {w:World} {S:Nat→Prop} {a:Option Addr} {cap:Nat} {l:List Int} (h:Ints w S a cap l) (j:Nat):Ints w S a cap (l.take j):=by
 obtain ⟨h1,h2,h3,h4⟩:=h
 refine ⟨by simp;omega,h2,fun x hx=>h3 x (List.mem_of_mem_take hx),fun q=>?_⟩
 obtain ⟨g,off,rfl,hg,hl,hc⟩:=h4 (by simp at q;omega)
 refine ⟨g,off,rfl,hg,hl,fun i x hx=>hc i x ?_⟩
 rw [List.getElem?_take]at hx
 split at hx
 ·exact hx
 ·simp at hx
theorem ints_at {w:World} {S:Nat→Prop} {a:Option Addr} {cap:Nat} {l:List Int} (h:Ints w S a cap l) (j:Nat) (x:Int) (hx:l[j]? = some x) :
  ∃ g off,a=some ⟨g,off,none⟩∧S g∧g<w.heap.size∧w.cell? ⟨g,off+j,none⟩=some (.int .i64 x):=by
 have hj:=(List.getElem?_eq_some_iff.1 hx).1
 obtain ⟨g,off,h1,h2,h3,h4⟩:=h.2.2.2 (by omega)
 exact ⟨g,off,h1,h2,h3,h4 j x hx⟩
def RowAt (w:World) (S:Nat→Prop) (g o:Nat) (r:Rw):Prop:=
 ∃ a cap,Ints w S a cap r.par∧w.cell? ⟨g,o,none⟩=some (.slice a r.par.length cap)∧w.cell? ⟨g,o+1,none⟩=some (.int .i64 r.tree)∧w.cell? ⟨g,o+2,none⟩=some (.int .i64 r.gen) ∧
  w.cell? ⟨g,o+3,none⟩=some (.int .i64 r.state)∧w.cell? ⟨g,o+4,none⟩=some (.string r.bits)
def RwOk (r:Rw):Prop:=I64 r.tree∧I64 r.gen∧I64 r.state∧r.bits.size≤140737488355328
def RwIs (w:World) (S:Nat→Prop) (a:Option Addr) (cap:Nat) (l:List Rw):Prop:=
 l.length≤cap∧cap≤maxLen∧(∀ r∈l,RwOk r) ∧
  (0<l.length→∃ g off,a=some ⟨g,off,none⟩∧S g∧g<w.heap.size∧∀ (i:Nat) (r:Rw),l[i]? = some r→RowAt w S g (off+i * 5) r)
theorem RowAt.turned {w w' : World} {S T:Nat→Prop} {g o:Nat} {r:Rw} (h:RowAt w S g o r) (ht:Turned T w w') (hS:∀ b,S b→¬ T b) (hg:S g) (hl:g<w.heap.size):RowAt w' S g o r:=by
 obtain ⟨a,cap,h1,h2⟩:=h
 refine ⟨a,cap,h1.turned ht hS,?_⟩
 have e:∀ o,w'.cell? ⟨g,o,none⟩=w.cell? ⟨g,o,none⟩:=fun o=>World.cell?_of_block (w':=w') (ht.block g hl (hS g hg))
 simp only [e]
 exact h2
theorem RwIs.turned {w w' : World} {S T:Nat→Prop} {a:Option Addr} {cap:Nat} {l:List Rw} (h:RwIs w S a cap l) (ht:Turned T w w') (hS:∀ b,S b→¬ T b):RwIs w' S a cap l:=by
 obtain ⟨h1,h2,h3,h4⟩:=h
 refine ⟨h1,h2,h3,fun q=>?_⟩
 obtain ⟨g,off,rfl,hg,hl,hc⟩:=h4 q
 exact ⟨g,off,rfl,hg,by have:=ht.size;omega,fun i r hr=>(hc i r hr).turned ht hS hg hl⟩
theorem RowAt.mono {w:World} {S T:Nat→Prop} {g o:Nat} {r:Rw} (h:RowAt w S g o r) (hS:∀ b,S b→T b):RowAt w T g o r:=by
 obtain ⟨a,cap,h1,h2⟩:=h
 exact ⟨a,cap,h1.mono hS,h2⟩
theorem RwIs.mono {w:World} {S T:Nat→Prop} {a:Option Addr} {cap:Nat} {l:List Rw} (h:RwIs w S a cap l) (hS:∀ b,S b→T b):RwIs w T a cap l:=by
 obtain ⟨h1,h2,h3,h4⟩:=h
 refine ⟨h1,h2,h3,fun q=>?_⟩
 obtain ⟨g,off,rfl,hg,hl,hc⟩:=h4 q
 exact ⟨g,off,rfl,hS g hg,hl,fun i r hr=>(hc i r hr).mono hS⟩
theorem rows_at {w:World} {S:Nat→Prop} {a:Option Addr} {cap:Nat} {l:List Rw} (h:RwIs w S a cap l) (j:Nat) (r:Rw) (hr:l[j]? = some r) :
  ∃ g off,a=some ⟨g,off,none⟩∧S g∧g<w.heap.size∧RowAt w S g (off+j * 5) r:=by
 have hj:=(List.getElem?_eq_some_iff.1 hr).1
 obtain ⟨g,off,h1,h2,h3,h4⟩:=h.2.2.2 (by omega)
 exact ⟨g,off,h1,h2,h3,h4 j r hr⟩
abbrev rowv (a:Option Addr) (cap:Nat) (r:Rw):Value:=.agg #[.slice a r.par.length cap,.int .i64 r.tree,.int .i64 r.gen,.int .i64 r.state,.string r.bits]
abbrev grv (a:Option Addr) (cap:Nat) (g:Gr):Value:=.agg #[.int .i64 g.base,.int .i64 g.h,.int .i64 g.p,.int .i64 g.m,.int .u32 (g.seed:Nat),.slice a g.rows.length cap]
def GrOk (g:Gr):Prop:=I64 g.base∧I64 g.h∧I64 g.p∧I64 g.m∧g.seed<4294967296
/-! ### what is good -/
def goodF (state:Int) (bits:ByteArray):Bool:=
 if state=0∨state=2 then decide (bits.size=0) else if state=1 then decide (1≤bits.size∧bits.size≤4096) else false
def goodP (n:Int) (l:List Int):Prop:=∀ (i:Nat) (p:Int),l[i]? = some p→0≤p∧p<n∧p ∉ l.take i
def goodR (r:Rw) (n:Int):Prop:=r.par.length≤16∧0≤r.tree∧r.tree<65536∧1≤r.gen∧r.gen≤1023∧goodP n r.par∧goodF r.state r.bits=true
def goodS (g:Gr):Prop:=1≤g.h∧g.h≤16∧1≤g.p∧g.p≤64∧0≤g.m∧g.m≤512
def goodN (g:Gr):Prop:=0≤g.base∧g.base≤65536∧(g.rows.length:Int)≤65536 - g.base
def goodG (g:Gr):Prop:=goodN g∧goodS g∧∀ (i:Nat) (r:Rw),g.rows[i]? = some r→goodR r (g.base+i)
open Classical in
noncomputable def goodRB (r:Rw) (n:Int):Bool:=decide (goodR r n)
open Classical in
noncomputable def grErr (g:Gr):Nat:=if goodG g then 0 else 1
theorem goodRB_true {r:Rw} {n:Int} (h:goodR r n):goodRB r n=true:=by unfold goodRB;simpa using h
theorem goodRB_false {r:Rw} {n:Int} (h:¬ goodR r n):goodRB r n=false:=by unfold goodRB;simpa using h
theorem goodRB_iff {r:Rw} {n:Int}:goodRB r n=true↔goodR r n:=by unfold goodRB;simp
theorem goodP_bound {n:Int} {l:List Int} (h:goodP n l):∀ p∈l,0≤p∧p<n:=fun p hp=>by
 obtain ⟨i,hi⟩:=List.getElem?_of_mem hp
 exact ⟨(h i p hi).1,(h i p hi).2.1⟩
end Go.Proofs.YtofcogekgcgjhaaGreatDoor
namespace Go.Proofs.YtofcogekgcgjhaaGreatDoor
open Go.RowKit Go.Mine
theorem int_neb (x y:Int) (h:x≠y):(x == y)=false:=by simp [h]
theorem ba_nonempty (s:ByteArray) (h:s.size≠0):(s.toList == [])=false∧s.toList.isEmpty=false:=by
 have h2:s≠⟨#[]⟩:=fun q=>h (by rw [q];rfl)
 have h3:=ba_ne s [] h2
 refine ⟨h3,?_⟩
 cases hl:s.toList with
 |nil=>rw [hl]at h3;simp at h3
 |cons=>rfl
theorem ba_empty (s:ByteArray) (h:s.size=0):s=⟨#[]⟩:=by
 apply ByteArray.ext
 exact Array.eq_empty_of_size_eq_zero h
theorem goodFilter_any (state:Int) (bits:ByteArray) (w:World) (hs:bits.size≤140737488355328) :
  Calls Tryz.prog 330 #[.agg #[.int .i64 state,.string bits]] w fun e w'=>e = .returned (.bool (goodF state bits))∧Turned (fun _=>False) w w':=by
 by_cases h0:state=0
 ·subst h0
  have HR:Hid (goodF 0 bits=decide (bits.size=0)):=by have:goodF 0 bits=decide (bits.size=0):=rfl;exact this
  by_cases hb:bits.size=0
  ·obtain rfl := ba_empty bits hb
   go_enter Tryz.func330,Tryz.ntmps330
   go_wp2
   go_ret
   exact ⟨rfl,Turned.alloc _ _ _⟩
  ·obtain ⟨e1, e2⟩ := ba_nonempty bits hb
   have HB:Hid (bits.size≠0):=hb
   clear hb hs
   go_enter Tryz.func330,Tryz.ntmps330
   go_wp2
   go_ret
   exact ⟨by rw [HR.out,decide_eq_false HB.out];rfl,Turned.alloc _ _ _⟩
 ·by_cases h2 : state = 2
  ·subst h2
   have HR:Hid (goodF 2 bits=decide (bits.size=0)):=by have:goodF 2 bits=decide (bits.size=0):=rfl;exact this
   by_cases hb:bits.size=0
   ·obtain rfl := ba_empty bits hb
    go_enter Tryz.func330,Tryz.ntmps330
    go_wp2
    go_ret
    exact ⟨rfl,Turned.alloc _ _ _⟩
   ·obtain ⟨e1, e2⟩ := ba_nonempty bits hb
    have HB:Hid (bits.size≠0):=hb
    clear hb hs
    go_enter Tryz.func330,Tryz.ntmps330
    go_wp2
    go_ret
    exact ⟨by rw [HR.out,decide_eq_false HB.out];rfl,Turned.alloc _ _ _⟩
  ·by_cases h1 : state = 1
   ·subst h1
    have HR:Hid (goodF 1 bits=decide (1≤bits.size∧bits.size≤4096)):=by have:goodF 1 bits=decide (1≤bits.size∧bits.size≤4096):=rfl;exact this
    by_cases hb:bits.size=0
    ·obtain rfl := ba_empty bits hb
     go_enter Tryz.func330,Tryz.ntmps330
     go_wp2
     go_ret
     exact ⟨rfl,Turned.alloc _ _ _⟩
    ·obtain ⟨e1, e2⟩ := ba_nonempty bits hb
     by_cases hm:bits.size≤4096
     ·have HX : Hid (decide (1 ≤ bits.size ∧ bits.size ≤ 4096) = true) := by
       have:decide (1≤bits.size∧bits.size≤4096)=true:=by simp;omega
       exact this
      have d1:decide ((bits.size:Int)≤4096)=true:=by simp;omega
      have d2:decide (bits.size≤4096)=true:=by simp;omega
      clear hb hs hm
      go_enter Tryz.func330,Tryz.ntmps330
      go_wp2
      go_ret
      exact ⟨by rw [HR.out,HX.out];rfl,Turned.alloc _ _ _⟩
     ·have HX : Hid (decide (1 ≤ bits.size ∧ bits.size ≤ 4096) = false) := by
       have:decide (1≤bits.size∧bits.size≤4096)=false:=by simp;omega
       exact this
      have d1:decide ((bits.size:Int)≤4096)=false:=by simp;omega
      have d2:decide (bits.size≤4096)=false:=by simp;omega
      clear hb hs hm
      go_enter Tryz.func330,Tryz.ntmps330
      go_wp2
      go_ret
      exact ⟨by rw [HR.out,HX.out];rfl,Turned.alloc _ _ _⟩
   ·have HR : Hid (goodF state bits = false) := by
     have:goodF state bits=false:=by unfold goodF;rw [if_neg (by omega),if_neg h1]
     exact this
    have d0:=int_neb _ _ h0
    have d2:=int_neb _ _ h2
    have d1:=int_neb _ _ h1
    clear h0 h1 h2 hs
    go_enter Tryz.func330,Tryz.ntmps330
    go_wp2
    go_ret
    exact ⟨by rw [HR.out];rfl,Turned.alloc _ _ _⟩
def IxRel (w:World) (l:List Int) (x:Int) (g:Nat) (i:Value) (wr:World):Prop:=
 ∃ j:Nat,j+g=l.length∧i = .int .i64 j∧x ∉ l.take j∧w=wr
def IxPost (l:List Int) (x:Int) (w:World) (e:Ending) (w' : World):Prop:=
 w=w'∧((x ∉ l∧e = .returned (.int .i64 (-1)))∨(x∈l∧∃ j:Nat,e = .returned (.int .i64 j)))
theorem index_ints (S:Nat→Prop) (a:Option Addr) (cap:Nat) (l:List Int) (x:Int) (w:World) (h:Ints w S a cap l) :
  Calls Tryz.prog 308 #[.slice a l.length cap,.int .i64 x] w (IxPost l x w):=by
 have H:Hid (Ints w S a cap l):=h
 obtain ⟨L,hL⟩:∃ L,L=l.length:=⟨_,rfl⟩
 have HL:Hid (L=l.length):=hL
 rw [←hL]
 have hcap:Hid (L≤9223372036854775807):=(by rw [hL];have:=h.1;have:=h.2.1;simp only [maxLen]at this;omega:L≤9223372036854775807)
 clear h hL
 go_enter Tryz.func308,Tryz.ntmps308
 go_wp2
 have HS:Hid (IxRel w l x L (.int .i64 0) w):=⟨0,by rw [HL.out,Nat.zero_add],rfl,by simp,rfl⟩
 go_loopg [8] L (fun g i wr=>IxRel w l x g i wr)
 case atStart=>exact HS.out
 case round=>
  obtain ⟨j,hjg,rfl,hno,rfl⟩:=hrel
  have N:Hid (x ∉ l.take j):=hno
  have G:Hid (j+gk=l.length):=hjg
  clear hno hjg HS
  by_cases hlt:j<L
  ·obtain ⟨c, hc⟩ : ∃ c, l[j]? = some c := ⟨_, List.getElem?_eq_getElem (by rw [← HL.out]; exact hlt)⟩
   obtain ⟨b,off,rfl,-,hbw,c0⟩:=ints_at H.out j c hc
   have HW:Hid (wrap64 ((j:Int)+1)=((j+1:Nat):Int)):=(by have:=hcap.out;simp [wrap64];omega:wrap64 ((j:Int)+1)=((j+1:Nat):Int))
   have C:Hid (l[j]? = some c):=hc
   clear hc
   by_cases hid:x=c
   ·subst hid
    go_wp2
    go_ret
    exact ⟨rfl,.inr ⟨List.mem_of_getElem? C.out,j,rfl⟩⟩
   ·have d0 := int_neb _ _ hid
    have HI:Hid (x≠c):=hid
    clear hid
    go_wp2
    go_roundg (gk - 1)
    case measure=>have:=G.out;have:=HL.out;omega
    case rel=>
     refine ⟨j+1,by have:=G.out;have:=HL.out;omega,by rw [HW.out],?_,rfl⟩
     rw [List.take_add_one,C.out]
     simp only [Option.toList_some,List.mem_append,List.mem_singleton]
     exact fun q=>q.elim N.out HI.out
  ·go_wp2
   go_ret
   refine ⟨rfl,.inl ⟨fun q=>N.out ?_,rfl⟩⟩
   rw [List.take_of_length_le (by have:=HL.out;omega)]
   exact q
theorem contains_ints (S:Nat→Prop) (a:Option Addr) (cap:Nat) (l:List Int) (x:Int) (w:World) (h:Ints w S a cap l) :
  Calls Tryz.prog 237 #[.slice a l.length cap,.int .i64 x] w fun e w'=>e = .returned (.bool (decide (x∈l)))∧w=w':=by
 have hi:=index_ints S a cap l x w h
 clear h
 generalize hb:decide (x∈l)=b
 have B:Hid (decide (x∈l)=b):=hb
 clear hb
 go_enter Tryz.func237,Tryz.ntmps237
 go_wp2_with fail
 refine hi.mono ?_
 rintro e w1 ⟨rfl,⟨h1,rfl⟩|⟨h1,j,rfl⟩⟩
 ·obtain rfl : false = b := by rw [← B.out]; simp [h1]
  clear h1
  go_wp2
  go_ret
  exact ⟨rfl,rfl⟩
 ·obtain rfl : true = b := by rw [← B.out]; simp [h1]
  have hj:decide ((0:Int)≤(j:Int))=true:=by simp
  clear h1
  go_wp2
  go_ret
  exact ⟨rfl,rfl⟩
end Go.Proofs.YtofcogekgcgjhaaGreatDoor
namespace Go.Proofs.YtofcogekgcgjhaaGreatDoor
open Go.RowKit Go.Mine
theorem info3i:(Tryz.prog.info? 3).map (fun i=>(i.zero,i.size,i.bytes))=some (some (.int .i64 0),1,8):=by kernel_rfl
theorem ints_to {w:World} {S:Nat→Prop} {a:Option Addr} {cap:Nat} {l:List Int} (h:Ints w S a cap l) (j:Nat) (hj:j≤l.length) (W:World) :
  (Instr.slice 41 (.slice a l.length cap) none (some (.int .i64 j)) none).run Tryz.prog W = .ok (.slice a j cap) W:=by
 obtain ⟨i,hi,hz0,hz1,hz2⟩:=info_parts info3i
 have hjc:j≤cap:=by have:=h.1;omega
 simp [Instr.slice,Instr.sliceBounds,Instr.sliceBound,asIntOf,run_underlying Tryz.underlying41,sizeOf,typeInfo,hi,hjc,Result.andThen]
 intro _
 cases a with
 |none=>rfl
 |some ad=>simp [Addr.add]
def GrowRel (l:List Int) (n:Int) (w:World) (g:Nat) (i:Value) (wr:World):Prop:=
 ∃ j:Nat,j+g=l.length∧i = .int .i64 j∧goodP n (l.take j)∧w=wr
theorem goodP_succ {n:Int} {l:List Int} {j:Nat} {p:Int} (hp:l[j]? = some p) (h:goodP n (l.take j)) (h1:0≤p) (h2:p<n) (h3:p ∉ l.take j):goodP n (l.take (j+1)):=by
 intro i q hq
 rw [List.getElem?_take]at hq
 split at hq
 ·rename_i hi
  by_cases hij:i=j
  ·subst hij
   rw [hp]at hq
   obtain rfl:=Option.some.inj hq
   rw [List.take_take,Nat.min_eq_left (by omega)]
   exact ⟨h1,h2,h3⟩
  ·have := h i q (by rw [List.getElem?_take, if_pos (by omega)]; exact hq)
   rw [List.take_take,Nat.min_eq_left (by omega)]at this ⊢
   exact this
 ·simp at hq
theorem goodP_not {n:Int} {l:List Int} {j:Nat} {p:Int} (hp:l[j]? = some p) (h:p<0∨n≤p∨p∈l.take j):¬ goodP n l:=fun q=>by
 obtain ⟨q1,q2,q3⟩:=q j p hp
 rcases h with h|h|h
 ·omega
 ·omega
 ·exact q3 h
set_option maxHeartbeats 2000000 in
theorem goodRow_any (S:Nat→Prop) (a:Option Addr) (cap:Nat) (r:Rw) (n:Int) (w:World) (h:Ints w S a cap r.par) (hok:RwOk r) :
  Calls Tryz.prog 296 #[rowv a cap r,.int .i64 n] w fun e w'=>e = .returned (.bool (goodRB r n))∧Turned (fun _=>False) w w':=by
 obtain ⟨L,hL⟩:∃ L,L=r.par.length:=⟨_,rfl⟩
 have HL:Hid (L=r.par.length):=hL
 have hgr:¬ (r.par.length≤16∧0≤r.tree∧r.tree<65536∧1≤r.gen∧r.gen≤1023)→goodRB r n=false:=fun q=>goodRB_false fun g=>q ⟨g.1,g.2.1,g.2.2.1,g.2.2.2.1,g.2.2.2.2.1⟩
 unfold rowv
 rw [←hL]at hgr ⊢
 have hLm:L≤9223372036854775807:=by rw [hL];have:=h.1;have:=h.2.1;simp only [maxLen]at this;omega
 have HLm:Hid (L≤9223372036854775807):=hLm
 have HI:Hid (Ints w S a cap r.par):=h
 have hfl:=fun W=>goodFilter_any r.state r.bits W hok.2.2.2
 clear h hok hL
 by_cases h1:16<L
 ·have HR : Hid (goodRB r n = false) := hgr (by omega)
  have d1:decide ((16:Int)<(L:Int))=true:=by simp;omega
  have d2:decide (16<L)=true:=by simp;omega
  generalize goodRB r n=R at *
  generalize r.tree=tree at *
  generalize r.gen=gen at *
  generalize r.state=state at *
  generalize r.bits=bits at *
  clear h1 hgr hfl HL HI
  go_enter Tryz.func296,Tryz.ntmps296
  go_wp2
  go_ret
  exact ⟨by rw [HR.out];rfl,Turned.alloc _ _ _⟩
 ·have d1 : decide ((16 : Int) < (L : Int)) = false := by simp; omega
  have d2:decide (16<L)=false:=by simp;omega
  by_cases h2:r.tree<0
  ·have HR : Hid (goodRB r n = false) := hgr (by omega)
   have d3:decide (r.tree<0)=true:=by simp;omega
   generalize goodRB r n=R at *
   generalize r.tree=tree at *
   generalize r.gen=gen at *
   generalize r.state=state at *
   generalize r.bits=bits at *
   clear h1 h2 hgr hfl HL HI
   go_enter Tryz.func296,Tryz.ntmps296
   go_wp2
   go_ret
   exact ⟨by rw [HR.out];rfl,Turned.alloc _ _ _⟩
  ·have d3 : decide (r.tree < 0) = false := by simp; omega
   by_cases h3:65536≤r.tree
   ·have HR : Hid (goodRB r n = false) := hgr (by omega)
    have d4:decide (65536≤r.tree)=true:=by simp;omega
    generalize goodRB r n=R at *
    generalize r.tree=tree at *
    generalize r.gen=gen at *
    generalize r.state=state at *
    generalize r.bits=bits at *
    clear h1 h2 h3 hgr hfl HL HI
    go_enter Tryz.func296,Tryz.ntmps296
    go_wp2
    go_ret
    exact ⟨by rw [HR.out];rfl,Turned.alloc _ _ _⟩
   ·have d4 : decide (65536 ≤ r.tree) = false := by simp; omega
    by_cases h4:r.gen<1
    ·have HR : Hid (goodRB r n = false) := hgr (by omega)
     have d5:decide (r.gen<1)=true:=by simp;omega
     generalize goodRB r n=R at *
     generalize r.tree=tree at *
     generalize r.gen=gen at *
     generalize r.state=state at *
     generalize r.bits=bits at *
     clear h1 h2 h3 h4 hgr hfl HL HI
     go_enter Tryz.func296,Tryz.ntmps296
     go_wp2
     go_ret
     exact ⟨by rw [HR.out];rfl,Turned.alloc _ _ _⟩
    ·have d5 : decide (r.gen < 1) = false := by simp; omega
     by_cases h5:1023<r.gen
     ·have HR : Hid (goodRB r n = false) := hgr (by omega)
      have d6:decide (1023<r.gen)=true:=by simp;omega
      generalize goodRB r n=R at *
      generalize r.tree=tree at *
      generalize r.gen=gen at *
      generalize r.state=state at *
      generalize r.bits=bits at *
      clear h1 h2 h3 h4 h5 hgr hfl HL HI
      go_enter Tryz.func296,Tryz.ntmps296
      go_wp2
      go_ret
      exact ⟨by rw [HR.out];rfl,Turned.alloc _ _ _⟩
     ·have d6 : decide (1023 < r.gen) = false := by simp; omega
      have OK:Hid (r.par.length≤16∧0≤r.tree∧r.tree<65536∧1≤r.gen∧r.gen≤1023):=by
       have:=HL.out
       have q:r.par.length≤16∧0≤r.tree∧r.tree<65536∧1≤r.gen∧r.gen≤1023:=by omega
       exact q
      have NOT:Hid (¬ goodP n r.par→goodRB r n=false):=by
       have q:¬ goodP n r.par→goodRB r n=false:=fun k=>goodRB_false fun g=>k g.2.2.2.2.2.1
       exact q
      have YES:Hid (goodP n r.par→goodRB r n=goodF r.state r.bits):=by
       have q:goodP n r.par→goodRB r n=goodF r.state r.bits:=fun k=>by
        rw [Bool.eq_iff_iff,goodRB_iff]
        obtain ⟨o1,o2,o3,o4,o5⟩:=OK.out
        exact ⟨fun g=>g.2.2.2.2.2.2,fun g=>⟨o1,o2,o3,o4,o5,k,g⟩⟩
       exact q
      generalize goodRB r n=R at *
      generalize goodF r.state r.bits=F at *
      generalize r.tree=tree at *
      generalize r.gen=gen at *
      generalize r.state=state at *
      generalize r.bits=bits at *
      generalize hpar:r.par=par at *
      clear h1 h2 h3 h4 h5 hgr hpar
      have HS:Hid (GrowRel par n (w.alloc (.cells #[.slice a L cap,.int .i64 tree,.int .i64 gen,.int .i64 state,.string bits] 48)) L (.int .i64 0) (w.alloc (.cells #[.slice a L cap,.int .i64 tree,.int .i64 gen,.int .i64 state,.string bits] 48))):=
       ⟨0,by rw [HL.out,Nat.zero_add],rfl,fun i p q=>by simp at q,rfl⟩
      go_enter Tryz.func296,Tryz.ntmps296
      go_wp2
      go_loopg [34] L (fun g i wr=>GrowRel par n (w.alloc (.cells #[.slice a L cap,.int .i64 tree,.int .i64 gen,.int .i64 state,.string bits] 48)) g i wr)
      case atStart=>exact HS.out
      case round=>
       obtain ⟨j,hjg,rfl,hno,rfl⟩:=hrel
       have N:Hid (goodP n (par.take j)):=hno
       have G:Hid (j+gk=par.length):=hjg
       clear hno hjg HS
       by_cases hlt:j<L
       ·obtain ⟨p, hp⟩ : ∃ p, par[j]? = some p := ⟨_, List.getElem?_eq_getElem (by rw [← HL.out]; exact hlt)⟩
        obtain ⟨b,off,rfl,hS,hbw,c0⟩:=ints_at HI.out j p hp
        have HW:Hid (wrap64 ((j:Int)+1)=((j+1:Nat):Int)):=(by simp [wrap64];omega:wrap64 ((j:Int)+1)=((j+1:Nat):Int))
        have C:Hid (par[j]? = some p):=hp
        have hsl:∀ W,(Instr.slice 41 (.slice (some ⟨b,off,none⟩) L cap) none (some (.int .i64 (j:Nat))) none).run Tryz.prog W = .ok (.slice (some ⟨b,off,none⟩) j cap) W:=fun W=>by
         have:=ints_to HI.out j (by rw [←HL.out];omega) W
         rw [←HL.out]at this
         exact this
        have hcon:Calls Tryz.prog 237 #[.slice (some ⟨b,off,none⟩) j cap,.int .i64 p] (w.alloc (.cells #[.slice (some ⟨b,off,none⟩) L cap,.int .i64 tree,.int .i64 gen,.int .i64 state,.string bits] 48)) fun e w'=>e = .returned (.bool (decide (p∈par.take j)))∧(w.alloc (.cells #[.slice (some ⟨b,off,none⟩) L cap,.int .i64 tree,.int .i64 gen,.int .i64 state,.string bits] 48))=w':=by
         have:=contains_ints S (some ⟨b,off,none⟩) cap (par.take j) p _ ((HI.out.take j).turned (Turned.alloc (fun _=>False) w (.cells #[.slice (some ⟨b,off,none⟩) L cap,.int .i64 tree,.int .i64 gen,.int .i64 state,.string bits] 48)) fun _ _ q=>q)
         rw [List.length_take,Nat.min_eq_left (by rw [←HL.out];omega)]at this
         exact this
        have hne:b≠w.heap.size:=by omega
        clear hp
        by_cases g1:p<0
        ·have e1 : decide (p < 0) = true := by simp; omega
         have HF:Hid (R=false):=NOT.out (goodP_not C.out (.inl g1))
         clear g1 hcon hsl
         go_wp2
         go_ret
         exact ⟨by rw [HF.out];rfl,Turned.alloc _ _ _⟩
        ·have e1 : decide (p < 0) = false := by simp; omega
         by_cases g2:n≤p
         ·have e2 : decide (n ≤ p) = true := by simp; omega
          have HF:Hid (R=false):=NOT.out (goodP_not C.out (.inr (.inl g2)))
          clear g1 g2 hcon hsl
          go_wp2
          go_ret
          exact ⟨by rw [HF.out];rfl,Turned.alloc _ _ _⟩
         ·have e2 : decide (n ≤ p) = false := by simp; omega
          by_cases g3:p∈par.take j
          ·have HF : Hid (R = false) := NOT.out (goodP_not C.out (.inr (.inr g3)))
           rw [decide_eq_true g3]at hcon
           clear g1 g2 g3
           go_wp2_with (go_at_call 237;(with_reducible refine hcon.mono ?_);rintro e w2 ⟨rfl,rfl⟩)
           go_ret
           exact ⟨by rw [HF.out];rfl,Turned.alloc _ _ _⟩
          ·rw [decide_eq_false g3] at hcon
           have HN:Hid (goodP n (par.take (j+1))):=goodP_succ C.out N.out (by omega) (by omega) g3
           clear g1 g2 g3
           go_wp2_with (go_at_call 237;(with_reducible refine hcon.mono ?_);rintro e w2 ⟨rfl,rfl⟩)
           go_roundg (gk - 1)
           case measure=>have:=G.out;have:=HL.out;omega
           case rel=>exact ⟨j+1,by have:=G.out;have:=HL.out;omega,by simp,HN.out,rfl⟩
       ·have HF : Hid (R = F) := by
         have q:R=F:=by
          refine YES.out ?_
          have:=N.out
          rw [List.take_of_length_le (by have:=HL.out;omega)]at this
          exact this
         exact q
        go_wp2_with (go_at_call 330;(with_reducible refine (hfl _).mono ?_);rintro e w2 ⟨rfl,ht2⟩)
        go_ret
        exact ⟨by rw [HF.out];rfl,(Turned.alloc _ _ _).trans ht2 fun _ _ q=>q⟩
end Go.Proofs.YtofcogekgcgjhaaGreatDoor
namespace Go.Proofs.YtofcogekgcgjhaaGreatDoor
open Go.RowKit Go.Mine
end Go.Proofs.YtofcogekgcgjhaaGreatDoor
namespace Go.Proofs.YtofcogekgcgjhaaGreatDoor
open Go.RowKit Go.Mine
def stErr (h p m:Int):Nat:=if 1≤h∧h≤16∧1≤p∧p≤64∧0≤m∧m≤512 then 0 else 1
theorem settings_any (h p m:Int) (seed:Nat) (w:World) :
  Calls Tryz.prog 131 #[.agg #[.int .i64 h,.int .i64 p,.int .i64 m,.int .u32 (seed:Nat)]] w fun e w'=>e = .returned (.int .i64 (stErr h p m:Nat))∧Turned (fun _=>False) w w':=by
 have no:¬ (1≤h∧h≤16∧1≤p∧p≤64∧0≤m∧m≤512)→stErr h p m=1:=fun q=>by unfold stErr;rw [if_neg q]
 have yes:(1≤h∧h≤16∧1≤p∧p≤64∧0≤m∧m≤512)→stErr h p m=0:=fun q=>by unfold stErr;rw [if_pos q]
 by_cases h0:h<1
 ·have HR : Hid (stErr h p m = 1) := no (by omega)
  have d0:decide (h<1)=true:=decide_eq_true h0
  clear no yes h0
  generalize stErr h p m=R at *
  go_enter Tryz.func131,Tryz.ntmps131
  go_wp2
  go_ret
  exact ⟨by rw [HR.out];rfl,Turned.alloc _ _ _⟩
 ·have d0 : decide (h < 1) = false := decide_eq_false h0
  by_cases h1:16<h
  ·have HR : Hid (stErr h p m = 1) := no (by omega)
   have d1:decide (16<h)=true:=decide_eq_true h1
   clear no yes h0 h1
   generalize stErr h p m=R at *
   go_enter Tryz.func131,Tryz.ntmps131
   go_wp2
   go_ret
   exact ⟨by rw [HR.out];rfl,Turned.alloc _ _ _⟩
  ·have d1 : decide (16 < h) = false := decide_eq_false h1
   by_cases h2:p<1
   ·have HR : Hid (stErr h p m = 1) := no (by omega)
    have d2:decide (p<1)=true:=decide_eq_true h2
    clear no yes h0 h1 h2
    generalize stErr h p m=R at *
    go_enter Tryz.func131,Tryz.ntmps131
    go_wp2
    go_ret
    exact ⟨by rw [HR.out];rfl,Turned.alloc _ _ _⟩
   ·have d2 : decide (p < 1) = false := decide_eq_false h2
    by_cases h3:64<p
    ·have HR : Hid (stErr h p m = 1) := no (by omega)
     have d3:decide (64<p)=true:=decide_eq_true h3
     clear no yes h0 h1 h2 h3
     generalize stErr h p m=R at *
     go_enter Tryz.func131,Tryz.ntmps131
     go_wp2
     go_ret
     exact ⟨by rw [HR.out];rfl,Turned.alloc _ _ _⟩
    ·have d3 : decide (64 < p) = false := decide_eq_false h3
     by_cases h4:m<0
     ·have HR : Hid (stErr h p m = 1) := no (by omega)
      have d4:decide (m<0)=true:=decide_eq_true h4
      clear no yes h0 h1 h2 h3 h4
      generalize stErr h p m=R at *
      go_enter Tryz.func131,Tryz.ntmps131
      go_wp2
      go_ret
      exact ⟨by rw [HR.out];rfl,Turned.alloc _ _ _⟩
     ·have d4 : decide (m < 0) = false := decide_eq_false h4
      by_cases h5:512<m
      ·have HR : Hid (stErr h p m = 1) := no (by omega)
       have d5:decide (512<m)=true:=decide_eq_true h5
       clear no yes h0 h1 h2 h3 h4 h5
       generalize stErr h p m=R at *
       go_enter Tryz.func131,Tryz.ntmps131
       go_wp2
       go_ret
       exact ⟨by rw [HR.out];rfl,Turned.alloc _ _ _⟩
      ·have d5 : decide (512 < m) = false := decide_eq_false h5
       have HR:Hid (stErr h p m=0):=yes (by omega)
       clear no yes h0 h1 h2 h3 h4 h5
       generalize stErr h p m=R at *
       go_enter Tryz.func131,Tryz.ntmps131
       go_wp2
       go_ret
       exact ⟨by rw [HR.out];rfl,Turned.alloc _ _ _⟩
end Go.Proofs.YtofcogekgcgjhaaGreatDoor
namespace Go.Proofs.YtofcogekgcgjhaaGreatDoor
open Go.RowKit Go.Mine
def CkRel (rows:List Rw) (base:Int) (w:World) (cs:Array Value) (g:Nat) (i:Value) (wr:World):Prop:=
 ∃ j:Nat,j+g=rows.length∧i = .int .i64 j∧(∀ (t:Nat) (r:Rw),t<j→rows[t]? = some r→goodR r (base+t))∧wr.heap[w.heap.size]? = some (.cells cs 123 (0,0))∧Turned (fun _=>False) w wr
theorem grErr_no {g:Gr} (h:¬ goodG g):grErr g=1:=by unfold grErr;rw [if_neg h]
theorem grErr_yes {g:Gr} (h:goodG g):grErr g=0:=by unfold grErr;rw [if_pos h]
theorem stErr_iff (g:Gr):stErr g.h g.p g.m=0↔goodS g:=by
 unfold stErr goodS
 split
 ·rename_i h;exact ⟨fun _=>h,fun _=>rfl⟩
 ·rename_i h;exact ⟨fun q=>by simp at q,fun q=>absurd q h⟩
theorem stErr_le (h p m:Int):stErr h p m=0∨stErr h p m=1:=by unfold stErr;split <;> simp
set_option maxHeartbeats 2000000 in
theorem check_any (S:Nat→Prop) (a:Option Addr) (cap:Nat) (g:Gr) (w:World) (h:RwIs w S a cap g.rows) :
  Calls Tryz.prog 219 #[grv a cap g] w fun e w'=>e = .returned (.int .i64 (grErr g:Nat))∧Turned (fun _=>False) w w':=by
 obtain ⟨L,hL⟩:∃ L,L=g.rows.length:=⟨_,rfl⟩
 have HL:Hid (L=g.rows.length):=hL
 have hgr:¬ (0≤g.base∧g.base≤65536∧(L:Int)≤65536 - g.base)→grErr g=1:=fun q=>grErr_no fun k=>q (by have:=k.1;unfold goodN at this;rw [←hL]at this;exact this)
 have NOT:Hid (∀ (t:Nat) (r:Rw),g.rows[t]? = some r→¬ goodR r (g.base+t)→grErr g=1):=by
  have q:∀ (t:Nat) (r:Rw),g.rows[t]? = some r→¬ goodR r (g.base+t)→grErr g=1:=fun t r hr hn=>grErr_no fun k=>hn (k.2.2 t r hr)
  exact q
 have YES:Hid (goodN g→(∀ (t:Nat) (r:Rw),g.rows[t]? = some r→goodR r (g.base+t))→grErr g=stErr g.h g.p g.m):=by
  have q:goodN g→(∀ (t:Nat) (r:Rw),g.rows[t]? = some r→goodR r (g.base+t))→grErr g=stErr g.h g.p g.m:=fun hn hr=>by
   by_cases hs:goodS g
   ·rw [(stErr_iff g).2 hs,grErr_yes ⟨hn,hs,hr⟩]
   ·rw [grErr_no fun k => hs k.2.1]
    rcases stErr_le g.h g.p g.m with q|q
    ·exact absurd ((stErr_iff g).1 q) hs
    ·rw [q]
  exact q
 have GN:Hid ((0≤g.base∧g.base≤65536∧(L:Int)≤65536 - g.base)→goodN g):=by
  have q:(0≤g.base∧g.base≤65536∧(L:Int)≤65536 - g.base)→goodN g:=fun k=>by unfold goodN;rw [←hL];exact k
  exact q
 unfold grv
 rw [←hL]
 have hLm:L≤9223372036854775807:=by rw [hL];have:=h.1;have:=h.2.1;simp only [maxLen]at this;omega
 have HI:Hid (RwIs w S a cap g.rows):=h
 have hst:=fun W=>settings_any g.h g.p g.m g.seed W
 generalize grErr g=R at *
 generalize goodN g=GN' at *
 generalize stErr g.h g.p g.m=F at *
 generalize g.rows=rows at *
 generalize g.base=base at *
 generalize g.h=gh at *
 generalize g.p=gp at *
 generalize g.m=gm at *
 generalize g.seed=seed at *
 clear h hL
 by_cases h1:base<0
 ·have HR : Hid (R = 1) := hgr (by omega)
  have d1:decide (base<0)=true:=decide_eq_true h1
  clear h1 hgr HL HI hst
  go_enter Tryz.func219,Tryz.ntmps219
  go_wp2
  go_ret
  exact ⟨by rw [HR.out];rfl,Turned.alloc _ _ _⟩
 ·have d1 : decide (base < 0) = false := decide_eq_false h1
  by_cases h2:65536<base
  ·have HR : Hid (R = 1) := hgr (by omega)
   have d2:decide (65536<base)=true:=decide_eq_true h2
   clear h1 h2 hgr HL HI hst
   go_enter Tryz.func219,Tryz.ntmps219
   go_wp2
   go_ret
   exact ⟨by rw [HR.out];rfl,Turned.alloc _ _ _⟩
  ·have d2 : decide (65536 < base) = false := decide_eq_false h2
   have hb0:0≤base:=by omega
   have hb1:base≤65536:=by omega
   by_cases h3:65536 - base<(L:Int)
   ·have HR : Hid (R = 1) := hgr (by omega)
    have d3:decide (65536 - base<(L:Int))=true:=decide_eq_true h3
    clear h1 h2 h3 hgr HL HI hst
    go_enter Tryz.func219,Tryz.ntmps219
    go_wp2
    go_ret
    exact ⟨by rw [HR.out];rfl,Turned.alloc _ _ _⟩
   ·have d3 : decide (65536 - base < (L : Int)) = false := decide_eq_false h3
    have HN:Hid GN':=GN.out (by omega)
    have HB:Hid ((L:Int)≤65536 - base):=(by omega:(L:Int)≤65536 - base)
    clear h1 h2 h3 hgr GN
    have HS:Hid (CkRel rows base w #[.int .i64 base,.int .i64 gh,.int .i64 gp,.int .i64 gm,.int .u32 (seed:Nat),.slice a L cap] L (.int .i64 0) (w.alloc (.cells #[.int .i64 base,.int .i64 gh,.int .i64 gp,.int .i64 gm,.int .u32 (seed:Nat),.slice a L cap] 123))):=
     ⟨0,by rw [HL.out,Nat.zero_add],rfl,fun t r q=>by omega,heap_alloc_last w _,Turned.alloc _ _ _⟩
    go_enter Tryz.func219,Tryz.ntmps219
    go_wp2
    go_loopg [25] L (fun g i wr=>CkRel rows base w #[.int .i64 base,.int .i64 gh,.int .i64 gp,.int .i64 gm,.int .u32 (seed:Nat),.slice a L cap] g i wr)
    case atStart=>exact HS.out
    case round=>
     obtain ⟨j,hjg,rfl,hno,hblk,htr⟩:=hrel
     have N:Hid (∀ (t:Nat) (r:Rw),t<j→rows[t]? = some r→goodR r (base+t)):=hno
     have G:Hid (j+gk=rows.length):=hjg
     have T:Hid (Turned (fun _=>False) w wr):=htr
     have BK:Hid (wr.heap[w.heap.size]? = some (.cells #[.int .i64 base,.int .i64 gh,.int .i64 gp,.int .i64 gm,.int .u32 (seed:Nat),.slice a L cap] 123 (0,0))):=hblk
     have hlw:=lt_of_block hblk
     have k0:=cell_of hblk 0 _ rfl
     clear hno hjg HS hblk htr
     by_cases hlt:j<L
     ·obtain ⟨r, hr⟩ : ∃ r, rows[j]? = some r := ⟨_, List.getElem?_eq_getElem (by rw [← HL.out]; exact hlt)⟩
      have hrok:=HI.out.2.2.1 r (List.mem_of_getElem? hr)
      obtain ⟨b,off,rfl,hS,hbw,ra,rcap,hints,c0,c1,c2,c3,c4⟩:=rows_at (HI.out.turned T.out fun _ _ q=>q) j r hr
      have C:Hid (rows[j]? = some r):=hr
      have hjb:(j:Int)<65536:=by have:=HB.out;omega
      have hgo:=goodRow_any S ra rcap r (base+j) (wr.alloc (.cells #[.slice ra r.par.length rcap,.int .i64 r.tree,.int .i64 r.gen,.int .i64 r.state,.string r.bits] 48)) (hints.turned (Turned.alloc (fun _=>False) wr _) fun _ _ q=>q) hrok
      have NB:Hid (b≠wr.heap.size∧w.heap.size≠wr.heap.size):=⟨by omega,by omega⟩
      clear hr hrok hints
      by_cases hg:goodR r (base+j)
      ·rw [goodRB_true hg] at hgo
       have HGD:Hid (goodR r (base+j)):=hg
       clear hg
       unfold rowv at hgo
       generalize r.par.length=pl at *
       generalize r.tree=rt at *
       generalize r.gen=rg at *
       generalize r.state=rs at *
       generalize r.bits=rb at *
       go_wp2_with (go_at_call 296;(with_reducible refine hgo.mono ?_);rintro e w2 ⟨rfl,ht2⟩)
       go_roundg (gk - 1)
       case measure=>have:=G.out;have:=HL.out;omega
       case rel=>
        refine ⟨j+1,by have:=G.out;have:=HL.out;omega,by simp,fun t e ht hd=>?_,?_,(T.out.new _).trans ht2 fun _ _ q=>q⟩
        ·rcases Nat.lt_or_eq_of_le (Nat.le_of_lt_succ ht) with q | q
         ·exact N.out t e q hd
         ·subst q;rw [C.out]at hd;obtain rfl:=Option.some.inj hd;exact HGD.out
        ·rw [ht2.block _ (by simp; omega) fun q => q]
         exact Go.Mine.heap_alloc_old BK.out
      ·have HF : Hid (R = 1) := NOT.out j r C.out hg
       rw [goodRB_false hg]at hgo
       clear hg
       unfold rowv at hgo
       generalize r.par.length=pl at *
       generalize r.tree=rt at *
       generalize r.gen=rg at *
       generalize r.state=rs at *
       generalize r.bits=rb at *
       go_wp2_with (go_at_call 296;(with_reducible refine hgo.mono ?_);rintro e w2 ⟨rfl,ht2⟩)
       go_ret
       exact ⟨by rw [HF.out];rfl,(T.out.new _).trans ht2 fun _ _ q=>q⟩
     ·have HF : Hid (R = F) := YES.out HN.out fun t r hr => N.out t r (by have := (List.getElem?_eq_some_iff.1 hr).1; have := HL.out; omega) hr
      have k1:=cell_of BK.out 1 _ rfl
      have k2:=cell_of BK.out 2 _ rfl
      have k3:=cell_of BK.out 3 _ rfl
      have k4:=cell_of BK.out 4 _ rfl
      go_wp2_with (go_at_call 131;(with_reducible refine (hst _).mono ?_);rintro e w2 ⟨rfl,ht2⟩)
      go_ret
      exact ⟨by rw [HF.out];rfl,T.out.trans ht2 fun _ _ q=>q⟩
end Go.Proofs.YtofcogekgcgjhaaGreatDoor
namespace Go.Proofs.YtofcogekgcgjhaaGreatDoor
open Go.RowKit Go.Mine
end Go.Proofs.YtofcogekgcgjhaaGreatDoor
