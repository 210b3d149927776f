/- Packed. -/
import Derived.Test.YtofcogekgcgjhaaGreatDoorZzat
import Derived.Lib.ConvBytes
set_option linter.unusedVariables false
set_option linter.unusedSimpArgs false
set_option maxRecDepth 100000
namespace Go.Proofs.YtofcogekgcgjhaaGreatDoor
open Go.RowKit Go.Mine Go.Mine.Ac
def badC (c:UInt8):Bool:=!(decide (33≤c) && decide (c≤126))
theorem named1_no (c:UInt8) (w:World) (h:badC c=false):Calls Tryz.prog 179 #[.int .u8 (c.toNat:Nat)] w fun e w'=>e = .returned (.bool false)∧w=w':=by
 have hb:33≤c.toNat∧c.toNat≤126:=by
  simp [badC,UInt8.le_iff_toNat_le]at h
  exact h
 have e1:decide ((c.toNat:Int)<33)=false:=by simp;omega
 have e2:decide (c.toNat<33)=false:=by simp;omega
 have e3:decide ((126:Int)<(c.toNat:Int))=false:=by simp;omega
 have e4:decide (126<c.toNat)=false:=by simp;omega
 clear h hb
 generalize c.toNat=n at *
 go_enter Tryz.func179,Tryz.ntmps179
 go_wp2
 go_ret
 exact ⟨rfl,rfl⟩
theorem named1_yes (c:UInt8) (w:World) (h:badC c=true):Calls Tryz.prog 179 #[.int .u8 (c.toNat:Nat)] w fun e w'=>e = .returned (.bool true)∧w=w':=by
 have hb:c.toNat<33∨126<c.toNat:=by
  simp [badC,UInt8.le_iff_toNat_le]at h
  omega
 by_cases h1:c.toNat<33
 ·have e1 : decide ((c.toNat : Int) < 33) = true := by simp; omega
  have e2:decide (c.toNat<33)=true:=by simp;omega
  clear h hb h1
  generalize c.toNat=n at *
  go_enter Tryz.func179,Tryz.ntmps179
  go_wp2
  go_ret
  exact ⟨rfl,rfl⟩
 ·have e1 : decide ((c.toNat : Int) < 33) = false := by simp; omega
  have e2:decide (c.toNat<33)=false:=by simp;omega
  have e3:decide ((126:Int)<(c.toNat:Int))=true:=by simp;omega
  have e4:decide (126<c.toNat)=true:=by simp;omega
  clear h hb h1
  generalize c.toNat=n at *
  go_enter Tryz.func179,Tryz.ntmps179
  go_wp2
  go_ret
  exact ⟨rfl,rfl⟩
def NxRel (w:World) (l:List UInt8) (g:Nat) (v:Value) (wr:World):Prop:=∃ i:Nat,v = .int .i64 (i:Nat)∧i+g=l.length∧(∀ (j:Nat) c,j<i→l[j]? = some c→badC c=false)∧wr=w
def NxPost (w:World) (l:List UInt8) (e:Ending) (w' : World):Prop:=w=w'∧((l.all (fun c=>!badC c)=true∧e = .returned (.int .i64 (-1)))∨(l.all (fun c=>!badC c)=false∧∃ i:Nat,i<l.length∧e = .returned (.int .i64 (i:Nat))))
theorem nindex_any {g cap:Nat} (l:List UInt8) (w:World) (h:∀ (i:Nat) c,l[i]? = some c→w.cell? ⟨g,i,none⟩=some (.int .u8 (c.toNat:Nat))) (hl:l.length≤100000) :
  Calls Tryz.prog 252 #[.slice (some ⟨g,0,none⟩) l.length cap,.func (.func 179) #[] #[]] w (NxPost w l):=by
 obtain ⟨D,hD⟩:∃ D,D=NxPost w l:=⟨_,rfl⟩
 have HD:Hid (D=NxPost w l):=hD
 rw [←hD]
 obtain ⟨n,hn⟩:∃ n,n=l.length:=⟨_,rfl⟩
 have HN:Hid (n=l.length∧n≤100000):=hidS ⟨hn,by omega⟩
 have HS:Hid (∀ (i:Nat) c,l[i]? = some c→w.cell? ⟨g,i,none⟩=some (.int .u8 (c.toNat:Nat))):=h
 have B0:Hid (NxRel w l n (.int .i64 0) w):=⟨0,rfl,by omega,fun j c hj=>absurd hj (Nat.not_lt_zero _),rfl⟩
 rw [←hn]
 clear hD hn h hl
 go_enter Tryz.func252,Tryz.ntmps252
 go_wp2
 go_loopg [8] n (fun g v wr=>NxRel w l g v wr)
 case atStart=>exact B0.out
 case round=>
  obtain ⟨i,rfl,hig,hno,rfl⟩:=hrel
  have G:Hid (i+gk=l.length∧(∀ (j:Nat) c,j<i→l[j]? = some c→badC c=false)):=⟨hig,hno⟩
  clear hig hno B0
  by_cases hlt:i<n
  ·obtain ⟨c, hc⟩ : ∃ c, l[i]? = some c := ⟨_, List.getElem?_eq_getElem (by have := HN.out.1; omega)⟩
   have hcell:=HS.out i c hc
   have HC:Hid (l[i]? = some c):=hc
   have HLT:Hid (i<n):=hlt
   have hd1:decide ((i:Int)<(n:Int))=true:=by simp;omega
   have hd2:decide (i<n)=true:=by simp;omega
   have HW:Hid (wrap64 ((i:Int)+1)=((i+1:Nat):Int)):=hidS (by have:=HLT.out;have:=HN.out.2;simp [wrap64];omega)
   clear hc
   cases hb:badC c with
   |false=>
    have HB:Hid (badC c=false):=hb
    have h1:=named1_no c wr hb
    clear hb
    go_wp2_with (go_at_call 179;(with_reducible refine h1.mono ?_);rintro e w' ⟨rfl,rfl⟩)
    go_roundg (gk - 1)
    case measure=>have:=G.out;have:=HLT.out;have:=HN.out;omega
    case rel=>exact ⟨i+1,by rw [HW.out],by have:=G.out;have:=HLT.out;have:=HN.out;omega,fun j d hj hd=>by
     by_cases q:j=i
     ·subst q
      rw [HC.out]at hd
      rw [←Option.some.inj hd];exact HB.out
     ·exact G.out.2 j d (by omega) hd,rfl⟩
   |true=>
    have HB:Hid (badC c=true):=hb
    have h1:=named1_yes c wr hb
    clear hb
    go_wp2_with (go_at_call 179;(with_reducible refine h1.mono ?_);rintro e w' ⟨rfl,rfl⟩)
    rw [HD.out]
    refine ⟨rfl,.inr ⟨?_,i,by have:=HLT.out;have:=HN.out;omega,rfl⟩⟩
    rw [List.all_eq_false]
    exact ⟨c,List.mem_of_getElem? HC.out,by rw [HB.out];decide⟩
  ·have hd1 : decide ((i : Int) < (n : Int)) = false := by simp; omega
   have hd2:decide (i<n)=false:=by simp;omega
   have HLT:Hid (n≤i):=hidS (by omega)
   clear hlt
   go_wp2
   rw [HD.out]
   refine ⟨rfl,.inl ⟨?_,rfl⟩⟩
   rw [List.all_eq_true]
   intro c hc
   obtain ⟨j,hj⟩:=List.getElem?_of_mem hc
   rw [G.out.2 j c (by have:=(List.getElem?_eq_some_iff.1 hj).1;have:=HN.out;have:=HLT.out;omega) hj]
   rfl
def allGood (l:List UInt8):Bool:=l.all fun c=>!badC c
theorem ncontains_any {g cap:Nat} (l:List UInt8) (w:World) (h:∀ (i:Nat) c,l[i]? = some c→w.cell? ⟨g,i,none⟩=some (.int .u8 (c.toNat:Nat))) (hl:l.length≤100000) :
  Calls Tryz.prog 178 #[.slice (some ⟨g,0,none⟩) l.length cap,.func (.func 179) #[] #[]] w fun e w'=>e = .returned (.bool (!allGood l))∧w=w':=by
 have hi:=nindex_any (cap:=cap) l w h hl
 obtain ⟨n,hn⟩:∃ n,n=l.length:=⟨_,rfl⟩
 rw [←hn]at hi ⊢
 clear h hl
 cases hg:allGood l with
 |true=>
  replace hi:Calls Tryz.prog 252 #[.slice (some ⟨g,0,none⟩) n cap,.func (.func 179) #[] #[]] w fun e w'=>e = .returned (.int .i64 (-1))∧w=w':=hi.mono fun e w' ⟨h1,h2⟩=>h2.elim (fun q=>⟨q.2,h1⟩) fun q=>by have:=q.1;unfold allGood at hg;rw [hg]at this;simp at this
  clear hn hg
  go_enter Tryz.func178,Tryz.ntmps178
  go_wp2_with (go_at_call 252;(with_reducible refine hi.mono ?_);rintro e w' ⟨rfl,rfl⟩)
  go_ret
  exact ⟨rfl,rfl⟩
 |false=>
  replace hi:Calls Tryz.prog 252 #[.slice (some ⟨g,0,none⟩) n cap,.func (.func 179) #[] #[]] w fun e w'=>(∃ i:Nat,e = .returned (.int .i64 (i:Nat)))∧w=w':=hi.mono fun e w' ⟨h1,h2⟩=>h2.elim (fun q=>by have:=q.1;unfold allGood at hg;rw [hg]at this;simp at this) fun q=>⟨⟨q.2.choose,q.2.choose_spec.2⟩,h1⟩
  clear hn hg
  go_enter Tryz.func178,Tryz.ntmps178
  go_wp2_with (go_at_call 252;(with_reducible refine hi.mono ?_);rintro e w' ⟨⟨i,rfl⟩,rfl⟩;have hd1:decide ((0:Int)≤(i:Int))=true:=by simp)
  go_ret
  exact ⟨rfl,rfl⟩
theorem goodName_all (s:ByteArray):goodName s=(decide (1≤s.size) && decide (s.size≤32) && allGood s.data.toList):=by
 unfold goodName allGood badC
 congr 1
 congr 1
 funext c
 simp
theorem bytes_turned (w:World) (e:TypeId) (s:ByteArray):Turned (fun _=>False) w (Lib.bytesWorld w e s):=
 ⟨rfl,rfl,rfl,by rw [Lib.bytesWorld_size];omega,fun b hb _=>Lib.bytesWorld_at_old w e s b hb⟩
theorem list_size (s:ByteArray):s.data.toList.length=s.size:=by rw [Array.length_toList];rfl
theorem fnamed_any (s:ByteArray) (w:World):Calls Tryz.prog 94 #[.string s] w fun e w'=>e = .returned (.bool (goodName s))∧Turned (fun _=>False) w w':=by
 rw [goodName_all]
 have hl:=list_size s
 by_cases h0:s.size=0
 ·have he : s.toList.isEmpty = true := by
   rw [ByteArray.toList_eq,List.isEmpty_iff_length_eq_zero,hl,h0]
  have he2:(s.toList == [])=true:=by simpa using he
  have hd:decide (1≤s.size)=false:=by rw [h0];rfl
  rw [hd]
  clear hl h0 hd
  go_enter Tryz.func94,Tryz.ntmps94
  go_wp2
  go_ret
  exact ⟨rfl,Turned.refl _ _⟩
 ·have he : s.toList.isEmpty = false := by
   rw [ByteArray.toList_eq]
   cases hq:s.data.toList with
   |nil=>rw [hq]at hl;simp at hl;omega
   |cons a b=>rfl
  have he2:(s.toList == [])=false:=by simpa using he
  have hd:decide (1≤s.size)=true:=by simp;omega
  rw [hd]
  by_cases h32:s.size≤32
  ·have hd3 : decide ((s.size : Int) ≤ 32) = true := by simp; omega
   have hd4:decide (s.size≤32)=true:=by simp;omega
   rw [hd4]
   have hcv:=Lib.run_convert_string_bytes (P:=Tryz.prog) w 9 83 5 s Tryz.underlying9 Tryz.underlying83 Tryz.underlying5
   have SB:∀ (i:Nat) c,s.data.toList[i]? = some c→(Lib.bytesWorld w 5 s).cell? ⟨w.heap.size,i,none⟩=some (.int .u8 (c.toNat:Nat)):=fun i c hi=>by
    have hj:=(List.getElem?_eq_some_iff.1 hi).1
    rw [Lib.bytesWorld_cell w 5 s i (by omega)]
    simp [List.getD,hi]
   have hc:=ncontains_any (cap:=Go.grownCap w s.size 0 5) s.data.toList (Lib.bytesWorld w 5 s) SB (by omega)
   have T2:Hid (Turned (fun _=>False) w (Lib.bytesWorld w 5 s)):=bytes_turned w 5 s
   rw [hl]at hc
   clear SB hl h0 h32 hd hd4
   generalize Lib.bytesWorld w 5 s=W at *
   generalize Go.grownCap w s.size 0 5=cap at *
   go_enter Tryz.func94,Tryz.ntmps94
   go_wp2_with (go_at_call 178;(with_reducible refine hc.mono ?_);rintro e w' ⟨rfl,rfl⟩)
   go_ret
   exact ⟨by simp,T2.out⟩
  ·have hd3 : decide ((s.size : Int) ≤ 32) = false := by simp; omega
   have hd4:decide (s.size≤32)=false:=by simp;omega
   rw [hd4]
   clear hl h0 h32 hd hd4
   go_enter Tryz.func94,Tryz.ntmps94
   go_wp2
   go_ret
   exact ⟨rfl,Turned.refl _ _⟩
theorem FsAt.put {w w' : World} {rl:Nat→Nat} {d ms mf:Nat} {pv:Value} {F:Nat→Nat} {D D' : Dk} (h:FsAt w rl d ms mf pv F D) (ht:Turned (· = d) w w')
  (hb:Blk w' d #[.int .i64 (D'.quota:Nat),.int .i64 (D'.files.length:Nat),.map (some ms),.map (some mf),pv,.int .i64 (D'.falls:Nat),.bool D'.off] 148)
  (hs:D'.seen=D.seen) (hf:D'.safe=D.safe) (hp:D'.pend=D.pend) (hl:D'.files=D.files):FsAt w' rl d ms mf pv F D':=by
 have r1:=h.r1
 have k2:ms≠d:=fun q=>by have:=h.r2;rw [q,r1]at this;omega
 have k3:mf≠d:=fun q=>by have:=h.r3;rw [q,r1]at this;omega
 refine ⟨h.r1,h.r2,h.r3,hb,?_,?_,?_,?_,fun b hb=>Nat.lt_of_lt_of_le (h.bnd b hb) ht.size,h.bs.congr (ht.block _ h.seen.lt k2),h.bf.congr (ht.block _ h.safe.lt k3)⟩
 ·rw [hs];exact h.seen.congr (ht.block _ h.seen.lt fun q=>by have:=h.r2;rw [q,r1]at this;omega) fun _=>rfl
 ·rw [hf];exact h.safe.congr (ht.block _ h.safe.lt fun q=>by have:=h.r3;rw [q,r1]at this;omega) fun _=>rfl
 ·rw [hp];exact h.pend.turned ht fun b hb q=>by rw [q,r1]at hb;omega
 ·intro k hk
  have hk' : Live D k:=by unfold Live at *;rw [hs,hf,hp]at hk;exact hk
  obtain ⟨x,h1,h2⟩:=h.file k hk'
  exact ⟨x,by rw [hl];exact h1,h2.turned ht fun b hb q=>by rw [q,r1]at hb;omega⟩
theorem step_dies {w:World} {rl:Nat→Nat} {d ms mf:Nat} {pv:Value} {F:Nat→Nat} {D:Dk} (h:FsAt w rl d ms mf pv F D) (h1:D.falls=1) (fv:Value) :
  Calls Tryz.prog 95 #[pt d,fv] w fun e w'=>e = .returned (.int .i64 8)∧FsAt w' rl d ms mf pv F D.step.1∧Turned (· = d) w w':=by
 have f5:=free_of h.blk 5
 have f6:=free_of h.blk 6
 have c6:=cell_of h.blk 6 _ rfl
 have c5:w.cell? ⟨d,5,none⟩=some (.int .i64 1):=by rw [cell_of h.blk 5 _ rfl];simp [h1]
 have hlt:=lt_of_block h.blk
 have key:Hid (FsAt ((w.setCell ⟨d,5,none⟩ (.int .i64 0)).setCell ⟨d,6,none⟩ (.bool true)) rl d ms mf pv F D.step.1∧Turned (· = d) w ((w.setCell ⟨d,5,none⟩ (.int .i64 0)).setCell ⟨d,6,none⟩ (.bool true))):=hidS (by
  have t:Turned (· = d) w ((w.setCell ⟨d,5,none⟩ (.int .i64 0)).setCell ⟨d,6,none⟩ (.bool true)):=((Turned.refl (· = d) w).set (p:=⟨d,5,none⟩) rfl _).set (p:=⟨d,6,none⟩) rfl _
  have hst:D.step.1={ D with falls:=0,off:=true }:=by simp [Dk.step,h1]
  rw [hst]
  refine ⟨h.put t ?_ rfl rfl rfl rfl,t⟩
  have a1:=Go.Mine.heap_setCell_same h.blk (o:=5) (.int .i64 0)
  have a2:=Go.Mine.heap_setCell_same a1 (o:=6) (.bool true)
  simpa [Blk] using a2)
 clear h h1
 go_enter Tryz.func95,Tryz.ntmps95
 go_wp2
 go_ret
 exact ⟨rfl,key.out⟩
def newR (rl:Nat→Nat) (w w' : World) (k b:Nat):Nat:=if b<w.heap.size then rl b else if b<w'.heap.size then k else 0
theorem newR_old {rl:Nat→Nat} {w w' : World} {k b:Nat} (h:b<w.heap.size):newR rl w w' k b=rl b:=by unfold newR;rw [if_pos h]
theorem newR_new {rl:Nat→Nat} {w w' : World} {k b:Nat} (h:w.heap.size≤b) (h2:b<w'.heap.size):newR rl w w' k b=k:=by unfold newR;rw [if_neg (by omega),if_pos h2]
theorem newR_bnd {rl:Nat→Nat} {w w' : World} {k b:Nat} (h:newR rl w w' k b≠0) (hs:w.heap.size≤w'.heap.size):b<w'.heap.size:=by
 unfold newR at h
 split at h
 ·omega
 ·split at h
  ·assumption
  ·exact absurd rfl h
section
variable {w w' : World} {rl:Nat→Nat} {d ms mf n:Nat} {pv pv' : Value} {F:Nat→Nat} {D:Dk}
theorem FsC.keepR (h:FsC w rl d ms mf pv F D n) (w' : World) (k:Nat):∀ b,rl b≠0→newR rl w w' k b=rl b:=fun b hb=>newR_old (h.bnd b hb)
theorem FileAt.roles {rl' : Nat→Nat} {k:Nat} {x:Fl} (h:FileAt w rl F k x) (h1:∀ b,rl b≠0→rl' b=rl b):FileAt w rl' F k x:=by
 obtain ⟨a2,bv,a3,a4⟩:=h
 exact ⟨(h1 _ (by omega)).trans a2,bv,a3,a4.widen fun b hb=>(h1 b (by omega)).trans hb⟩
theorem Live.change {D:Dk} {c:Chg} {k:Nat} (h:Live (D.change c) k):Live D k∨(c.come≠emp∧c.file=k):=by
 rcases h with ⟨x,hx,e⟩|⟨x,hx,e⟩|⟨x,hx,e⟩
 ·rcases changed_mem hx with q | ⟨q, rfl⟩
  ·exact .inl (.inl ⟨x,q.1,e⟩)
  ·exact .inr ⟨q,e⟩
 ·exact .inl (.inr (.inl ⟨x,hx,e⟩))
 ·rcases List.mem_append.1 hx with q | q
  ·exact .inl (.inr (.inr ⟨x,q,e⟩))
  ·rw [List.mem_singleton] at q
   subst q
   exact .inr e
theorem pcells_app (F:Nat→Nat) (l:List Chg) (c:Chg):pcells F (l ++ [c])=pcells F l ++ pcell F c:=by simp [pcells]
theorem FsC.changeAt (h:FsC w rl d ms mf pv F D n) (c:Chg) (hc:c.come≠emp→∃ x,D.files[c.file]? = some x∧FileAt w rl F c.file x) (ht:Turned (fun b=>b=d∨b=ms∨rl b=4) w w')
  (hb:Blk w' d #[.int .i64 (D.quota:Nat),.int .i64 (n:Nat),.map (some ms),.map (some mf),pv',.int .i64 (D.falls:Nat),.bool D.off] 148)
  (hm:MapIs KStr w' ms (mapN F (changed D.seen c)) (changed D.seen c).length) (hmB:Births w' ms)
  (hp:Sl w' (fun b=>newR rl w w' 4 b=4) 159 3 pv' (pcells F D.pend ++ pcell F c) (D.pend.length+1)):FsC w' (newR rl w w' 4) d ms mf pv' F (D.change c) n:=by
 have K:=h.keepR w' 4
 have r1:=h.r1
 have r2:=h.r2
 have r3:=h.r3
 refine ⟨(K _ (by omega)).trans r1,(K _ (by omega)).trans r2,(K _ (by omega)).trans r3,hb,hm,?_,?_,?_,fun b hb=>newR_bnd hb ht.size,hmB,h.bf.congr (ht.block _ h.safe.lt fun q=>by rcases q with q|q|q <;> (first|(rw [q,r1]at r3;omega)|(rw [q,r2]at r3;omega)|omega))⟩
 ·exact h.safe.congr (ht.block _ h.safe.lt fun q=>by rcases q with q|q|q <;> (first|(rw [q,r1]at r3;omega)|(rw [q,r2]at r3;omega)|omega)) fun _=>rfl
 ·show Sl w' _ 159 3 pv' (pcells F (D.pend ++ [c])) (D.pend ++ [c]).length
  rw [pcells_app,List.length_append]
  exact hp
 ·intro k hk
  have:∃ x,D.files[k]? = some x∧FileAt w rl F k x:=by
   rcases Live.change hk with q|⟨q,rfl⟩
   ·exact h.file k q
   ·exact hc q
  obtain ⟨x,h1,h2⟩:=this
  exact ⟨x,h1,(h2.turned ht fun b hb q=>by rcases q with q|q|q <;> (first|(rw [q,r1]at hb;omega)|(rw [q,r2]at hb;omega)|omega)).roles K⟩
theorem FsAt.setAt (h:FsAt w rl d ms mf pv F D) {k:Nat} {x y:Fl} (hk:D.files[k]? = some x) (hf:FileAt w rl F k x) {bv:Value} (ht:Turned (fun b=>b=F k∨rl b=6+2 * k) w w')
  (hb:Blk w' (F k) #[.int .i64 (k:Nat),bv,.int .i64 (y.safe:Nat)] 157) (hs:Sl w' (fun b=>newR rl w w' (6+2 * k) b=6+2 * k) 5 1 bv (bcells y.bytes.data.toList) y.bytes.size) :
  FsAt w' (newR rl w w' (6+2 * k)) d ms mf pv F (D.setF k y):=by
 have K:=h.keepR w' (6+2 * k)
 have r1:=h.r1
 have r2:=h.r2
 have r3:=h.r3
 have rF:=hf.1
 have hlt:=(List.getElem?_eq_some_iff.1 hk).1
 have hn:∀ b,rl b≠0→rl b≠5+2 * k→rl b≠6+2 * k→¬ (b=F k∨rl b=6+2 * k):=fun b h1 h2 h3 q=>by rcases q with q|q <;> (first|(rw [q,rF]at h2;omega)|omega)
 refine ⟨(K _ (by omega)).trans r1,(K _ (by omega)).trans r2,(K _ (by omega)).trans r3,?_,?_,?_,?_,?_,fun b hb=>newR_bnd hb ht.size,h.bs.congr (ht.block _ h.seen.lt (hn _ (by omega) (by omega) (by omega))),h.bf.congr (ht.block _ h.safe.lt (hn _ (by omega) (by omega) (by omega)))⟩
 ·have := (ht.block _ (lt_of_block h.blk) (hn _ (by omega) (by omega) (by omega))).trans h.blk
  simpa [Dk.setF,Blk] using this
 ·exact h.seen.congr (ht.block _ h.seen.lt (hn _ (by omega) (by omega) (by omega))) fun _=>rfl
 ·exact h.safe.congr (ht.block _ h.safe.lt (hn _ (by omega) (by omega) (by omega))) fun _=>rfl
 ·exact (h.pend.turned ht fun b hb=>hn b (by omega) (by omega) (by omega)).widen fun b hb=>(K b (by omega)).trans hb
 ·intro j hj
  by_cases hjk:j=k
  ·subst hjk
   exact ⟨y,by simp [Dk.setF,hlt],(K _ (by omega)).trans rF,bv,hb,hs⟩
  ·obtain ⟨z, h1, h2⟩ := h.file j hj
   refine ⟨z,?_,(h2.turned ht fun b hb=>hn b (by omega) (by omega) (by omega)).roles K⟩
   show (D.files.set k y)[j]? = some z
   rw [List.getElem?_set_ne (fun q=>hjk q.symm)]
   exact h1
theorem FsC.moreAt (h:FsAt w rl d ms mf pv F D) (ht:Turned (fun _=>False) w w') {f:Nat} (hf:w.heap.size≤f) (hb:Blk w' f #[.int .i64 (D.files.length:Nat),.slice none 0 0,.int .i64 0] 157) :
  FsC w' (fun b=>if b=f then 5+2 * D.files.length else rl b) d ms mf pv (fun k=>if k=D.files.length then f else F k) { D with files:=D.files ++ [⟨emp,0⟩] } D.files.length ∧
  FileAt w' (fun b=>if b=f then 5+2 * D.files.length else rl b) (fun k=>if k=D.files.length then f else F k) D.files.length ⟨emp,0⟩:=by
 have K:∀ b,rl b≠0→(if b=f then 5+2 * D.files.length else rl b)=rl b:=fun b hb=>by rw [if_neg];intro q;have:=h.bnd b hb;omega
 have r1:=h.r1
 have r2:=h.r2
 have r3:=h.r3
 have hlive:∀ k,Live D k→k≠D.files.length:=fun k hk q=>by
  obtain ⟨x,h1,-⟩:=h.file k hk
  have:=(List.getElem?_eq_some_iff.1 h1).1
  omega
 have hmapN:∀ l:Nms,(∀ x∈l,x.2≠D.files.length)→∀ v,mapN (fun k=>if k=D.files.length then f else F k) l v=mapN F l v:=by
  intro l hl v
  cases v with
  |string s=>
   simp only [mapN]
   cases hs:findN l s with
   |none=>rfl
   |some k=>
    have:=hl _ (findN_mem hs)
    simp only [Option.map_some]
    rw [if_neg this]
  |_=>rfl
 have hpc:pcells (fun k=>if k=D.files.length then f else F k) D.pend=pcells F D.pend:=by
  unfold pcells
  have:∀ c∈D.pend,pcell (fun k=>if k=D.files.length then f else F k) c=pcell F c:=by
   intro c hc
   unfold pcell
   by_cases he:c.come=emp
   ·simp [he]
   ·have := hlive c.file (.inr (.inr ⟨c, hc, he, rfl⟩))
    simp [he,this]
  have gen:∀ l:List Chg,(∀ c∈l,pcell (fun k=>if k=D.files.length then f else F k) c=pcell F c)→l.flatMap (pcell fun k=>if k=D.files.length then f else F k)=l.flatMap (pcell F):=by
   intro l
   induction l with
   |nil=>intro _;rfl
   |cons c l ih=>intro q;rw [List.flatMap_cons,List.flatMap_cons,q c (List.mem_cons_self ..),ih fun c hc=>q c (List.mem_cons_of_mem _ hc)]
  exact gen _ this
 have hfile:FileAt w' (fun b=>if b=f then 5+2 * D.files.length else rl b) (fun k=>if k=D.files.length then f else F k) D.files.length ⟨emp,0⟩:=by
  refine ⟨by simp,.slice none 0 0,by simpa using hb,?_⟩
  exact Sl.nil _ _ _ _
 refine ⟨⟨(K _ (by omega)).trans r1,(K _ (by omega)).trans r2,(K _ (by omega)).trans r3,?_,?_,?_,?_,?_,?_,h.bs.congr (ht.block _ h.seen.lt id),h.bf.congr (ht.block _ h.safe.lt id)⟩,hfile⟩
 ·exact (ht.block _ (lt_of_block h.blk) id).trans h.blk
 ·exact h.seen.congr (ht.block _ h.seen.lt id) fun v=>hmapN _ (fun x hx=>hlive _ (.inl ⟨x,hx,rfl⟩)) v
 ·exact h.safe.congr (ht.block _ h.safe.lt id) fun v=>hmapN _ (fun x hx=>hlive _ (.inr (.inl ⟨x,hx,rfl⟩))) v
 ·rw [hpc]
  exact (h.pend.turned ht fun _ _ q=>q).widen fun b hb=>(K b (by omega)).trans hb
 ·intro k hk
  have hk' : Live D k:=hk
  have hne:=hlive k hk'
  obtain ⟨x,h1,h2⟩:=h.file k hk'
  have hlt:=(List.getElem?_eq_some_iff.1 h1).1
  refine ⟨x,by rw [List.getElem?_append_left hlt];exact h1,?_⟩
  obtain ⟨a1,bv,a2,a3⟩:=(h2.turned ht fun _ _ q=>q).roles K
  exact ⟨by simpa [hne] using a1,bv,by simpa [hne] using a2,a3⟩
 ·intro b hb'
  by_cases hbf:b=f
  ·subst hbf;exact lt_of_block hb
  ·simp only [hbf, if_false] at hb'
   exact Nat.lt_of_lt_of_le (h.bnd b hb') ht.size
end
end Go.Proofs.YtofcogekgcgjhaaGreatDoor
namespace Go.Proofs.YtofcogekgcgjhaaGreatDoor
open Go.RowKit Go.Mine Go.Mine.Ac
theorem src_new {P:Program} {tx e' : TypeId} (T:TypeId) (hk:P.underlying tx=some (.slice e')) (xs:List Value) (h1:∀ u∈xs,u.oneCell'=true) (w:World) :
  Src P xs.length tx (.slice (some ⟨w.heap.size,0,none⟩) 1 1) 1 xs (w.alloc (.cells xs.toArray T)):=by
 refine Src.ofSlice _ hk ⟨w.heap.size,0,none⟩ 1 1 xs (by simp) (fun j u hj=>?_) h1
 rw [Addr.add_lit,Nat.zero_add]
 exact cell_of (Go.Mine.heap_alloc_new w _) j u (by simpa using hj)
theorem src_newD {P:Program} {tx e' : TypeId} (T:TypeId) (hk:P.underlying tx=some (.slice e')) (xs:List Value) (h1:∀ u∈xs,u.oneCell'=true) (w:World) :
  Src P xs.length tx (.slice (some ⟨w.heap.size,0,none⟩) 1 1) 1 xs (w.alloc (.cells xs.toArray T)).drew:=by
 refine Src.ofSlice _ hk ⟨w.heap.size,0,none⟩ 1 1 xs (by simp) (fun j u hj=>?_) h1
 rw [Addr.add_lit,Nat.zero_add]
 exact cell_of (w:=(w.alloc (.cells xs.toArray T)).drew) (Go.Mine.heap_alloc_new w _) j u (by simpa using hj)
theorem info159:(Tryz.prog.info? 159).map (fun i=>(i.zero,i.size,i.bytes))=some (some (.agg #[.string ⟨#[]⟩,.string ⟨#[]⟩,.pointer none]),3,40):=by kernel_rfl
def FsPostC (w:World) (rl:Nat→Nat) (d:Nat) (D' : Dk) (n:Nat) (w' : World):Prop:=
 ∃ rl' ms' mf' pv' F',FsC w' rl' d ms' mf' pv' F' D' n∧(∀ b,rl' b≠0→rl b≠0∨w.heap.size≤b)∧Turned (fun b=>rl b≠0) w w'
abbrev FsPost (w:World) (rl:Nat→Nat) (d:Nat) (D' : Dk) (w' : World):Prop:=FsPostC w rl d D' D'.files.length w'
theorem newR_or {rl:Nat→Nat} {w w' : World} {k b:Nat} (h:newR rl w w' k b≠0):rl b≠0∨w.heap.size≤b:=by
 by_cases hb:b<w.heap.size
 ·rw [newR_old hb]at h;exact .inl h
 ·exact .inr (by omega)
theorem sl_widenB {w:World} {S T:Nat→Prop} {e:TypeId} {size:Nat} {v:Value} {xs:List Value} {n:Nat} (h:Sl w S e size v xs n) (hS:∀ b,b<w.heap.size→S b→T b):Sl w T e size v xs n:=by
 refine ⟨h.1,?_⟩
 rcases h.2 with h|⟨g,off,cap,cur,h1,h2,h3⟩
 ·exact .inl h
 ·exact .inr ⟨g,off,cap,cur,h1,hS g (lt_of_block h3.1) h2,h3⟩
theorem change_done {w W w2 w3:World} {rl:Nat→Nat} {d ms mf:Nat} {pv v' : Value} {F:Nat→Nat} {D:Dk} {N:Nat} (h:FsC w rl d ms mf pv F D N) (c:Chg) (o:Obj)
  (hc:c.come≠emp→∃ x,D.files[c.file]? = some x∧FileAt w rl F c.file x) (hW:Turned (fun _=>False) w W) (h2:Turned (· = ms) W w2) (hm:MapIs KStr w2 ms (mapN F (changed D.seen c)) (changed D.seen c).length) (hB:Births w2 ms)
  (h3:Turned (fun b=>rl b=4) (w2.alloc o).drew w3) (hs:Sl w3 (More (fun b=>rl b=4) (w2.alloc o).drew) 159 3 v' (pcells F D.pend ++ pcell F c) (D.pend.length+1)) (hd:w3.heap[d]? = w.heap[d]?) :
  FsPostC w rl d (D.change c) N (w3.setCell ⟨d,4,none⟩ v'):=by
 have r1:=h.r1
 have r2:=h.r2
 have hdm:ms≠d:=fun q=>by rw [q,r1]at r2;omega
 have s2:=h2.size
 have sW:=hW.size
 have es:(w2.alloc o).drew.heap.size=w2.heap.size+1:=by
  show (w2.alloc o).heap.size=_
  simp
 have s3:w2.heap.size+1≤w3.heap.size:=by
  have:=h3.size
  omega
 have hml:=hm.lt
 have T3:Turned (fun b=>rl b=4) w2 w3:=((Turned.alloc (fun b=>rl b=4) w2 o).draw).trans h3 fun _ _ q=>q
 have T1:Turned (fun b=>b=d∨b=ms∨rl b=4) w (w3.setCell ⟨d,4,none⟩ v'):=by
  refine Turned.set ?_ (p:=⟨d,4,none⟩) (.inl rfl) _
  refine Turned.comp (S:=fun b=>b=ms) (S':=fun b=>rl b=4) ?_ T3 fun i _ q=>q.elim (fun q=>.inr (.inl q)) fun q=>.inr (.inr q)
  exact hW.comp h2 fun i _ q=>q.elim False.elim id
 have hsz:(w3.setCell ⟨d,4,none⟩ v').heap.size=w3.heap.size:=setCell_size _ _ _
 have hne:(w3.setCell ⟨d,4,none⟩ v').heap[ms]? = w2.heap[ms]? := (heap_setCell_ne _ hdm).trans (T3.block _ hml (by rw [r2];decide))
 refine ⟨_,ms,mf,v',F,h.changeAt (w':=w3.setCell ⟨d,4,none⟩ v') c hc T1 ?_ (hm.congr hne fun _=>rfl) (hB.congr hne) ?_,fun b hb=>newR_or hb,T1.mono fun i _ q=>by rcases q with q|q|q <;> simp_all⟩
 ·have hb := hd.trans h.blk
  have:=Go.Mine.heap_setCell_same hb (o:=4) v'
  simpa [Blk] using this
 ·have ts : Turned (· = d) w3 (w3.setCell ⟨d, 4, none⟩ v') := Turned.setCell (S := (· = d)) (p := ⟨d, 4, none⟩) rfl _
  refine sl_widenB (hs.turned ts fun b hb q=>?_) fun b hb q=>?_
  ·rcases hb with hb | hb
   ·rw [q,r1]at hb;omega
   ·have := h.bnd d (by rw [r1]; decide)
    omega
  ·rcases q with q | q
   ·rw [newR_old (h.bnd b (by omega))];exact q
   ·exact newR_new (by omega) hb
set_option maxHeartbeats 1000000 in
theorem fchange_any {w:World} {rl:Nat→Nat} {d ms mf:Nat} {pv:Value} {F:Nat→Nat} {D:Dk} {N:Nat} (h:FsC w rl d ms mf pv F D N) (hok:NmsOk D.files.length D.seen) (c:Chg)
  (hc:c.come≠emp→∃ x,D.files[c.file]? = some x∧FileAt w rl F c.file x) (hp:D.pend.length≤1000000000) :
  Calls Tryz.prog 97 #[pt d,.agg (pcell F c).toArray] w fun e w'=>e = .returned (.tuple #[])∧FsPostC w rl d (D.change c) N w':=by
 obtain ⟨g,z,o,hpc⟩:∃ g z o,pcell F c=[.string g,.string z,.pointer o]:=by
  unfold pcell
  by_cases q:c.come=emp
  ·exact ⟨_,_,none,by rw [if_pos q]⟩
  ·exact ⟨_,_,some ⟨F c.file,0,none⟩,by rw [if_neg q]⟩
 have HDO:Hid (∀ W,Turned (fun _=>False) w W→Calls Tryz.prog 89 #[.agg #[.string g,.string z,.pointer o],.map (some ms)] W (DoPost W ms F D.seen c)):=hidS fun W hW=>by
  have:=fdo_any (F:=F) (w:=W) (m:=ms) c (h.seen.congr (hW.block _ h.seen.lt id) fun _=>rfl) (h.bs.congr (hW.block _ h.seen.lt id)) hok.nodup hok.ne
  rw [hpc]at this
  exact this
 have HP:Hid (pcell F c=[.string g,.string z,.pointer o]):=hpc
 have H:Hid (FsC w rl d ms mf pv F D N):=h
 have HC:=hc
 replace HC:Hid (c.come≠emp→∃ x,D.files[c.file]? = some x∧FileAt w rl F c.file x):=HC
 have HL:Hid (D.pend.length≤1000000000):=hp
 rw [hpc]
 have c2:=cell_of h.blk 2 _ rfl
 have hlt:=lt_of_block h.blk
 obtain ⟨a,cap,hpv,-,-⟩:=h.pend.value
 subst hpv
 have hne:ms≠d:=fun q=>by have h1:=h.r1;have h2:=h.r2;rw [q,h1]at h2;omega
 obtain ⟨n,hn⟩:∃ n,n=D.pend.length:=⟨_,rfl⟩
 have HN:Hid (n=D.pend.length):=hn
 have hB:∀ W w2:World,W.heap[w.heap.size]? = some (.cells #[.string g,.string z,.pointer o] 159)→Turned (fun _=>False) w W→Turned (· = ms) W w2→w2.heap[w.heap.size]? = some (.cells #[.string g,.string z,.pointer o] 159):=fun W w2 h1 h2 h3=>
  (h3.block _ (lt_of_block h1) fun q=>by have:=h.seen.lt;omega).trans h1
 have hD:∀ W w2:World,Turned (fun _=>False) w W→Turned (· = ms) W w2→w2.heap[d]? = w.heap[d]? := fun W w2 h2 h3=>
  (h3.block _ (Nat.lt_of_lt_of_le hlt h2.size) fun q=>hne q.symm).trans (h2.block _ hlt id)
 have K1:Hid (∀ W w2:World,Turned (· = ms) W w2→Turned (fun _=>False) w W→W.heap[w.heap.size]? = some (.cells #[.string g,.string z,.pointer o] 159) →
   w2.cell? ⟨d,4,none⟩=some (.slice a n cap)∧w2.frozen? ⟨d,4,none⟩=false∧d<w2.heap.size∧w2.cell? ⟨w.heap.size,0,none⟩=some (.string g)∧w2.cell? ⟨w.heap.size,1,none⟩=some (.string z)∧w2.cell? ⟨w.heap.size,2,none⟩=some (.pointer o)∧w2.heap[d]? = w.heap[d]? ∧
   Sl ((w2.alloc (.cells #[.string g,.string z,.pointer o] 159)).drew) (fun b=>rl b=4) 159 3 (.slice a n cap) (pcells F D.pend) n)   := hidS fun W w2 h3 h2 h1=>by
  have b1:=hB W w2 h1 h2 h3
  have b2:=(hD W w2 h2 h3).trans h.blk
  refine ⟨by rw [hn];exact cell_of b2 4 _ rfl,free_of b2 4,lt_of_block b2,cell_of b1 0 _ rfl,cell_of b1 1 _ rfl,cell_of b1 2 _ rfl,hD W w2 h2 h3,?_⟩
  rw [hn]
  have r2:=h.r2
  exact (((h.pend.turned h2 fun _ _ q=>q).turned h3 fun b hb q=>by rw [q,r2]at hb;omega).turned (Turned.alloc (fun _=>False) _ _) fun _ _ q=>q).drew
 have KSRC:Hid (∀ w2:World,Src Tryz.prog 3 146 (.slice (some ⟨w2.heap.size,0,none⟩) 1 1) 1 [.string g,.string z,.pointer o] ((w2.alloc (.cells #[.string g,.string z,.pointer o] 159)).drew)):=hidS fun w2=>
  src_newD 159 Tryz.underlying146 [.string g,.string z,.pointer o] (by simp [Value.oneCell']) w2
 have K4:Hid (∀ w2 w3:World,Turned (fun b=>rl b=4) (w2.alloc (.cells #[.string g,.string z,.pointer o] 159)).drew w3→w2.heap[d]? = w.heap[d]? → w3.heap[d]? = w.heap[d]? ∧ w3.frozen? ⟨d,4,none⟩=false∧d<w3.heap.size∧w3.cell? ⟨d,4,none⟩=some (.slice a n cap)):=hidS fun w2 w3 ht he=>by
  have r1:=h.r1
  have hb:=h.blk
  rw [←hn]at hb
  have h2:w2.heap[d]? = _:=he.trans hb
  have h3:w3.heap[d]? = _:=((ht.block d (by have:=lt_of_block h2;show d<(w2.alloc _).heap.size;simp;omega) (by rw [r1];decide)).trans (alloc_old _ (lt_of_block h2))).trans h2
  exact ⟨h3.trans hb.symm,free_of h3 4,lt_of_block h3,cell_of h3 4 _ rfl⟩
 have m1:Hid (n+1≤maxLen∧(n+1) * 40≤140737488355328):=hidS ⟨by rw [hn];simp only [maxLen];omega,by rw [hn];omega⟩
 rw [←hn]at c2
 clear hpc h hok hc hp hB hD hn
 go_enter Tryz.func97,Tryz.ntmps97
 go_wp2
 go_region_with (first|(go_at_call 89;(refine (HDO.out _ (by first|exact Turned.alloc _ _ _|exact (Turned.alloc _ _ _).draw|exact ((Turned.alloc _ _ _).draw).draw)).mono ?_);rintro e w2 ⟨rfl,hm2,ht2,hz2,hb2⟩;obtain ⟨k1,k2,k3,k4,k5,k6,k8,k7⟩:=K1.out _ w2 ht2 (by first|exact Turned.alloc _ _ _|exact (Turned.alloc _ _ _).draw|exact ((Turned.alloc _ _ _).draw).draw) (by exact heap_alloc_new _ _);have KS:=KSRC.out w2;replace KS:Hid _:=hidS KS;replace k7:Hid _:=hidS k7;have Z2:Hid (MapIs KStr w2 ms (mapN F (changed D.seen c)) (changed D.seen c).length∧Turned (· = ms) _ w2∧w2.heap.size=_∧Births w2 ms):=hidS ⟨hm2,ht2,hz2,hb2⟩;clear hm2 ht2 hz2 hb2))
 all_goals go_wp2
 all_goals go_region_law ((refine step_append (by rfl) _ _ 146 146 (by rfl) k7.out Tryz.underlying146 info159 rfl (by decide) (by rfl) (.slice (some ⟨w2.heap.size,0,none⟩) 1 1) (by rfl) KS.out m1.out.1 m1.out.2 ?_;intro v' w3 hsl ht3;obtain ⟨a3,cap3,hv3,-,-⟩:=hsl.value;subst hv3;have hq:=K4.out w2 w3 ht3 k8;obtain ⟨q1,q2,q3,q4⟩:=hq;have HQ:Hid (Sl w3 _ 159 3 _ _ (n+1)∧Turned _ _ w3):=⟨hsl,ht3⟩;clear hsl ht3))
 all_goals go_wp2
 all_goals go_end0
 all_goals exact ⟨rfl,change_done H.out c _ HC.out (by first|exact Turned.alloc _ _ _|exact (Turned.alloc _ _ _).draw|exact ((Turned.alloc _ _ _).draw).draw) Z2.out.2.1 Z2.out.1 Z2.out.2.2.2 HQ.out.2 (by rw [HP.out,←HN.out];exact HQ.out.1) q1⟩
end Go.Proofs.YtofcogekgcgjhaaGreatDoor
