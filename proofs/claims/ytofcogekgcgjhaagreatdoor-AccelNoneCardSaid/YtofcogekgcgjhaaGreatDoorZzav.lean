/- Packed. -/
import Derived.Test.YtofcogekgcgjhaaGreatDoorZzau
set_option linter.unusedVariables false
set_option linter.unusedSimpArgs false
set_option maxRecDepth 100000
namespace Go.Proofs.YtofcogekgcgjhaaGreatDoor
open Go.RowKit Go.Mine Go.Mine.Ac
theorem FsAt.counted {w:World} {rl:Nat→Nat} {d ms mf:Nat} {pv:Value} {F:Nat→Nat} {D:Dk} (h:FsAt w rl d ms mf pv F D) (h1:D.falls≠1) (m:Nat) (hm:m=D.falls - 1) :
  FsAt (w.setCell ⟨d,5,none⟩ (.int .i64 (m:Nat))) rl d ms mf pv F { D with falls:=D.falls - 1 }∧Turned (· = d) w (w.setCell ⟨d,5,none⟩ (.int .i64 (m:Nat))):=by
 have t:Turned (· = d) w (w.setCell ⟨d,5,none⟩ (.int .i64 (m:Nat))):=Turned.setCell (S:=(· = d)) (p:=⟨d,5,none⟩) rfl _
 refine ⟨h.put t ?_ rfl rfl rfl rfl,t⟩
 have:=Go.Mine.heap_setCell_same h.blk (o:=5) (.int .i64 (m:Nat))
 rw [hm]
 rw [hm]at this
 simpa [Blk] using this
theorem step_goes96 {w:World} {rl:Nat→Nat} {d ms mf:Nat} {pv:Value} {F:Nat→Nat} {D:Dk} (h:FsAt w rl d ms mf pv F D) (h1:D.falls≠1) (hF:D.falls≤9223372036854775807) (b0 b1:Nat) {Q:World→Prop}
  (hc:∀ w1,FsAt w1 rl d ms mf pv F { D with falls:=D.falls - 1 }→Turned (· = d) w w1→w1.heap.size=w.heap.size→Calls Tryz.prog 96 #[pt b0,pt b1] w1 fun e w'=>e = .returned (.tuple #[])∧Q w') :
  Calls Tryz.prog 95 #[pt d,.func (.func 96) #[] #[pt b0,pt b1]] w fun e w'=>e = .returned (.int .i64 0)∧Q w':=by
 have f5:=free_of h.blk 5
 have c5:=cell_of h.blk 5 _ rfl
 have hlt:=lt_of_block h.blk
 by_cases h0:D.falls=0
 ·have hD : { D with falls := D.falls - 1 } = D := by cases D; simp at h0 ⊢; omega
  rw [hD]at hc
  have hc0:=hc w h (Turned.refl _ _) rfl
  rw [h0]at c5
  clear h h1 hF h0 hc hD
  go_enter Tryz.func95,Tryz.ntmps95
  go_wp2_with (go_at_call 96;(with_reducible refine hc0.mono ?_);rintro e w' ⟨rfl,q⟩;replace q:Hid _:=hidS q)
  go_ret
  exact ⟨rfl,q.out⟩
 ·obtain ⟨m, hm⟩ : ∃ m, m = D.falls - 1 := ⟨_, rfl⟩
  obtain ⟨k1,k2⟩:=h.counted h1 m hm
  have hc0:=hc _ k1 k2 (setCell_size _ _ _)
  have e1:decide ((0:Int)<(D.falls:Int))=true:=by simp;omega
  have e2:decide (0<D.falls)=true:=by simp;omega
  have hw:wrap64 ((D.falls:Int) - 1)=((m:Nat):Int):=by simp [wrap64];omega
  have e3:((m:Int) == 0)=false:=by simp;omega
  have e4:(m == 0)=false:=by simp;omega
  clear k1 k2 hc h1 hF h0 hm h
  generalize D.falls=q at *
  go_enter Tryz.func95,Tryz.ntmps95
  go_wp2_with (go_at_call 96;(with_reducible refine hc0.mono ?_);rintro e w' ⟨rfl,q⟩;replace q:Hid _:=hidS q)
  go_ret
  exact ⟨rfl,q.out⟩
theorem step_goes98 {w:World} {rl:Nat→Nat} {d ms mf:Nat} {pv:Value} {F:Nat→Nat} {D:Dk} (h:FsAt w rl d ms mf pv F D) (h1:D.falls≠1) (hF:D.falls≤9223372036854775807) (b0 b1:Nat) {Q:World→Prop}
  (hc:∀ w1,FsAt w1 rl d ms mf pv F { D with falls:=D.falls - 1 }→Turned (· = d) w w1→w1.heap.size=w.heap.size→Calls Tryz.prog 98 #[pt b0,pt b1] w1 fun e w'=>e = .returned (.tuple #[])∧Q w') :
  Calls Tryz.prog 95 #[pt d,.func (.func 98) #[] #[pt b0,pt b1]] w fun e w'=>e = .returned (.int .i64 0)∧Q w':=by
 have f5:=free_of h.blk 5
 have c5:=cell_of h.blk 5 _ rfl
 have hlt:=lt_of_block h.blk
 by_cases h0:D.falls=0
 ·have hD : { D with falls := D.falls - 1 } = D := by cases D; simp at h0 ⊢; omega
  rw [hD]at hc
  have hc0:=hc w h (Turned.refl _ _) rfl
  rw [h0]at c5
  clear h h1 hF h0 hc hD
  go_enter Tryz.func95,Tryz.ntmps95
  go_wp2_with (go_at_call 98;(with_reducible refine hc0.mono ?_);rintro e w' ⟨rfl,q⟩;replace q:Hid _:=hidS q)
  go_ret
  exact ⟨rfl,q.out⟩
 ·obtain ⟨m, hm⟩ : ∃ m, m = D.falls - 1 := ⟨_, rfl⟩
  obtain ⟨k1,k2⟩:=h.counted h1 m hm
  have hc0:=hc _ k1 k2 (setCell_size _ _ _)
  have e1:decide ((0:Int)<(D.falls:Int))=true:=by simp;omega
  have e2:decide (0<D.falls)=true:=by simp;omega
  have hw:wrap64 ((D.falls:Int) - 1)=((m:Nat):Int):=by simp [wrap64];omega
  have e3:((m:Int) == 0)=false:=by simp;omega
  have e4:(m == 0)=false:=by simp;omega
  clear k1 k2 hc h1 hF h0 hm h
  generalize D.falls=q at *
  go_enter Tryz.func95,Tryz.ntmps95
  go_wp2_with (go_at_call 98;(with_reducible refine hc0.mono ?_);rintro e w' ⟨rfl,q⟩;replace q:Hid _:=hidS q)
  go_ret
  exact ⟨rfl,q.out⟩
theorem step_goes235 {w:World} {rl:Nat→Nat} {d ms mf:Nat} {pv:Value} {F:Nat→Nat} {D:Dk} (h:FsAt w rl d ms mf pv F D) (h1:D.falls≠1) (hF:D.falls≤9223372036854775807) (b0:Nat) {Q:World→Prop}
  (hc:∀ w1,FsAt w1 rl d ms mf pv F { D with falls:=D.falls - 1 }→Turned (· = d) w w1→w1.heap.size=w.heap.size→Calls Tryz.prog 235 #[pt b0] w1 fun e w'=>e = .returned (.tuple #[])∧Q w') :
  Calls Tryz.prog 95 #[pt d,.func (.func 235) #[] #[pt b0]] w fun e w'=>e = .returned (.int .i64 0)∧Q w':=by
 have f5:=free_of h.blk 5
 have c5:=cell_of h.blk 5 _ rfl
 have hlt:=lt_of_block h.blk
 by_cases h0:D.falls=0
 ·have hD : { D with falls := D.falls - 1 } = D := by cases D; simp at h0 ⊢; omega
  rw [hD]at hc
  have hc0:=hc w h (Turned.refl _ _) rfl
  rw [h0]at c5
  clear h h1 hF h0 hc hD
  go_enter Tryz.func95,Tryz.ntmps95
  go_wp2_with (go_at_call 235;(with_reducible refine hc0.mono ?_);rintro e w' ⟨rfl,q⟩;replace q:Hid _:=hidS q)
  go_ret
  exact ⟨rfl,q.out⟩
 ·obtain ⟨m, hm⟩ : ∃ m, m = D.falls - 1 := ⟨_, rfl⟩
  obtain ⟨k1,k2⟩:=h.counted h1 m hm
  have hc0:=hc _ k1 k2 (setCell_size _ _ _)
  have e1:decide ((0:Int)<(D.falls:Int))=true:=by simp;omega
  have e2:decide (0<D.falls)=true:=by simp;omega
  have hw:wrap64 ((D.falls:Int) - 1)=((m:Nat):Int):=by simp [wrap64];omega
  have e3:((m:Int) == 0)=false:=by simp;omega
  have e4:(m == 0)=false:=by simp;omega
  clear k1 k2 hc h1 hF h0 hm h
  generalize D.falls=q at *
  go_enter Tryz.func95,Tryz.ntmps95
  go_wp2_with (go_at_call 235;(with_reducible refine hc0.mono ?_);rintro e w' ⟨rfl,q⟩;replace q:Hid _:=hidS q)
  go_ret
  exact ⟨rfl,q.out⟩
theorem step_goes303 {w:World} {rl:Nat→Nat} {d ms mf:Nat} {pv:Value} {F:Nat→Nat} {D:Dk} (h:FsAt w rl d ms mf pv F D) (h1:D.falls≠1) (hF:D.falls≤9223372036854775807) (b0 b1 b2 b3:Nat) {Q:World→Prop}
  (hc:∀ w1,FsAt w1 rl d ms mf pv F { D with falls:=D.falls - 1 }→Turned (· = d) w w1→w1.heap.size=w.heap.size→Calls Tryz.prog 303 #[pt b0,pt b1,pt b2,pt b3] w1 fun e w'=>e = .returned (.tuple #[])∧Q w') :
  Calls Tryz.prog 95 #[pt d,.func (.func 303) #[] #[pt b0,pt b1,pt b2,pt b3]] w fun e w'=>e = .returned (.int .i64 0)∧Q w':=by
 have f5:=free_of h.blk 5
 have c5:=cell_of h.blk 5 _ rfl
 have hlt:=lt_of_block h.blk
 by_cases h0:D.falls=0
 ·have hD : { D with falls := D.falls - 1 } = D := by cases D; simp at h0 ⊢; omega
  rw [hD]at hc
  have hc0:=hc w h (Turned.refl _ _) rfl
  rw [h0]at c5
  clear h h1 hF h0 hc hD
  go_enter Tryz.func95,Tryz.ntmps95
  go_wp2_with (go_at_call 303;(with_reducible refine hc0.mono ?_);rintro e w' ⟨rfl,q⟩;replace q:Hid _:=hidS q)
  go_ret
  exact ⟨rfl,q.out⟩
 ·obtain ⟨m, hm⟩ : ∃ m, m = D.falls - 1 := ⟨_, rfl⟩
  obtain ⟨k1,k2⟩:=h.counted h1 m hm
  have hc0:=hc _ k1 k2 (setCell_size _ _ _)
  have e1:decide ((0:Int)<(D.falls:Int))=true:=by simp;omega
  have e2:decide (0<D.falls)=true:=by simp;omega
  have hw:wrap64 ((D.falls:Int) - 1)=((m:Nat):Int):=by simp [wrap64];omega
  have e3:((m:Int) == 0)=false:=by simp;omega
  have e4:(m == 0)=false:=by simp;omega
  clear k1 k2 hc h1 hF h0 hm h
  generalize D.falls=q at *
  go_enter Tryz.func95,Tryz.ntmps95
  go_wp2_with (go_at_call 303;(with_reducible refine hc0.mono ?_);rintro e w' ⟨rfl,q⟩;replace q:Hid _:=hidS q)
  go_ret
  exact ⟨rfl,q.out⟩
theorem step_goes100 {w:World} {rl:Nat→Nat} {d ms mf:Nat} {pv:Value} {F:Nat→Nat} {D:Dk} (h:FsAt w rl d ms mf pv F D) (h1:D.falls≠1) (hF:D.falls≤9223372036854775807) (b0 b1:Nat) {Q:World→Prop}
  (hc:∀ w1,FsAt w1 rl d ms mf pv F { D with falls:=D.falls - 1 }→Turned (· = d) w w1→w1.heap.size=w.heap.size→Calls Tryz.prog 100 #[pt b0,pt b1] w1 fun e w'=>e = .returned (.tuple #[])∧Q w') :
  Calls Tryz.prog 95 #[pt d,.func (.func 100) #[] #[pt b0,pt b1]] w fun e w'=>e = .returned (.int .i64 0)∧Q w':=by
 have f5:=free_of h.blk 5
 have c5:=cell_of h.blk 5 _ rfl
 have hlt:=lt_of_block h.blk
 by_cases h0:D.falls=0
 ·have hD : { D with falls := D.falls - 1 } = D := by cases D; simp at h0 ⊢; omega
  rw [hD]at hc
  have hc0:=hc w h (Turned.refl _ _) rfl
  rw [h0]at c5
  clear h h1 hF h0 hc hD
  go_enter Tryz.func95,Tryz.ntmps95
  go_wp2_with (go_at_call 100;(with_reducible refine hc0.mono ?_);rintro e w' ⟨rfl,q⟩;replace q:Hid _:=hidS q)
  go_ret
  exact ⟨rfl,q.out⟩
 ·obtain ⟨m, hm⟩ : ∃ m, m = D.falls - 1 := ⟨_, rfl⟩
  obtain ⟨k1,k2⟩:=h.counted h1 m hm
  have hc0:=hc _ k1 k2 (setCell_size _ _ _)
  have e1:decide ((0:Int)<(D.falls:Int))=true:=by simp;omega
  have e2:decide (0<D.falls)=true:=by simp;omega
  have hw:wrap64 ((D.falls:Int) - 1)=((m:Nat):Int):=by simp [wrap64];omega
  have e3:((m:Int) == 0)=false:=by simp;omega
  have e4:(m == 0)=false:=by simp;omega
  clear k1 k2 hc h1 hF h0 hm h
  generalize D.falls=q at *
  go_enter Tryz.func95,Tryz.ntmps95
  go_wp2_with (go_at_call 100;(with_reducible refine hc0.mono ?_);rintro e w' ⟨rfl,q⟩;replace q:Hid _:=hidS q)
  go_ret
  exact ⟨rfl,q.out⟩
theorem step_goes159 {w:World} {rl:Nat→Nat} {d ms mf:Nat} {pv:Value} {F:Nat→Nat} {D:Dk} (h:FsAt w rl d ms mf pv F D) (h1:D.falls≠1) (hF:D.falls≤9223372036854775807) (b0:Nat) {Q:World→Prop}
  (hc:∀ w1,FsAt w1 rl d ms mf pv F { D with falls:=D.falls - 1 }→Turned (· = d) w w1→w1.heap.size=w.heap.size→Calls Tryz.prog 159 #[pt b0] w1 fun e w'=>e = .returned (.tuple #[])∧Q w') :
  Calls Tryz.prog 95 #[pt d,.func (.func 159) #[] #[pt b0]] w fun e w'=>e = .returned (.int .i64 0)∧Q w':=by
 have f5:=free_of h.blk 5
 have c5:=cell_of h.blk 5 _ rfl
 have hlt:=lt_of_block h.blk
 by_cases h0:D.falls=0
 ·have hD : { D with falls := D.falls - 1 } = D := by cases D; simp at h0 ⊢; omega
  rw [hD]at hc
  have hc0:=hc w h (Turned.refl _ _) rfl
  rw [h0]at c5
  clear h h1 hF h0 hc hD
  go_enter Tryz.func95,Tryz.ntmps95
  go_wp2_with (go_at_call 159;(with_reducible refine hc0.mono ?_);rintro e w' ⟨rfl,q⟩;replace q:Hid _:=hidS q)
  go_ret
  exact ⟨rfl,q.out⟩
 ·obtain ⟨m, hm⟩ : ∃ m, m = D.falls - 1 := ⟨_, rfl⟩
  obtain ⟨k1,k2⟩:=h.counted h1 m hm
  have hc0:=hc _ k1 k2 (setCell_size _ _ _)
  have e1:decide ((0:Int)<(D.falls:Int))=true:=by simp;omega
  have e2:decide (0<D.falls)=true:=by simp;omega
  have hw:wrap64 ((D.falls:Int) - 1)=((m:Nat):Int):=by simp [wrap64];omega
  have e3:((m:Int) == 0)=false:=by simp;omega
  have e4:(m == 0)=false:=by simp;omega
  clear k1 k2 hc h1 hF h0 hm h
  generalize D.falls=q at *
  go_enter Tryz.func95,Tryz.ntmps95
  go_wp2_with (go_at_call 159;(with_reducible refine hc0.mono ?_);rintro e w' ⟨rfl,q⟩;replace q:Hid _:=hidS q)
  go_ret
  exact ⟨rfl,q.out⟩
theorem boxed {w w' : World} {T:Nat→Prop} {b:Nat} {o:Obj} (h:w.heap[b]? = some o) (ht:Turned T w w') (hT:¬ T b):w'.heap[b]? = some o:=(ht.block b (lt_of_block h) hT).trans h
theorem FsPostC.after {w w1 w' : World} {rl:Nat→Nat} {d n:Nat} {D' : Dk} (h:FsPostC w1 rl d D' n w') (ht:Turned (fun b=>rl b≠0) w w1):FsPostC w rl d D' n w':=by
 obtain ⟨rl',ms',mf',pv',F',h1,h2,h3⟩:=h
 exact ⟨rl',ms',mf',pv',F',h1,fun b hb=>(h2 b hb).elim .inl fun q=>.inr (Nat.le_trans ht.size q),ht.trans h3 fun _ _ q=>q⟩
theorem FsAt.post {w w' : World} {rl:Nat→Nat} {d ms mf:Nat} {pv:Value} {F:Nat→Nat} {D' : Dk} (h:FsAt w' rl d ms mf pv F D') (ht:Turned (fun b=>rl b≠0) w w'):FsPost w rl d D' w':=
 ⟨rl,ms,mf,pv,F,h,fun b hb=>.inl hb,ht⟩
theorem fremove1_any {w:World} {rl:Nat→Nat} {d ms mf:Nat} {pv:Value} {F:Nat→Nat} {D:Dk} (h:FsAt w rl d ms mf pv F D) (hok:D.Ok) (hp:D.pend.length≤1000000000) (name:ByteArray) (hn:name≠emp) (b0 b1:Nat)
  (h0:w.cell? ⟨b0,0,none⟩=some (pt d)) (h1:w.cell? ⟨b1,0,none⟩=some (.string name)) :
  Calls Tryz.prog 100 #[pt b0,pt b1] w fun e w'=>e = .returned (.tuple #[])∧FsPost w rl d (D.change ⟨name,emp,0⟩) w':=by
 have hc:=fchange_any h hok.seenOk ⟨name,emp,0⟩ (fun q=>absurd rfl q) hp
 have e:(pcell F ⟨name,emp,0⟩).toArray = #[.string name,.string ⟨#[]⟩,.pointer none]:=by unfold pcell;rw [if_neg hn];rfl
 rw [e]at hc
 clear h hok hp hn e
 go_enter Tryz.func100,Tryz.ntmps100
 go_wp2_with (go_at_call 97;(with_reducible refine hc.mono ?_);rintro e w' ⟨rfl,q⟩;replace q:Hid _:=hidS q)
 go_end0
 exact ⟨rfl,q.out⟩
theorem two_boxes {w:World} (o1 o2:Obj):Turned (fun _=>False) w ((w.alloc o1).alloc o2)∧((w.alloc o1).alloc o2).heap[w.heap.size]? = some o1∧((w.alloc o1).alloc o2).heap[w.heap.size+1]? = some o2:=by
 refine ⟨(Turned.alloc _ _ _).new _,Go.Mine.heap_alloc_old (Go.Mine.heap_alloc_new _ _),?_⟩
 have:=Go.Mine.heap_alloc_new (w.alloc o1) o2
 simpa using this
theorem then_of {w W:World} {rl:Nat→Nat} {d:Nat} {D:Dk} {f:Dk→Dk} {fv:Value} (hT:Turned (fun _=>False) w W)
  (hd:D.falls=1→Calls Tryz.prog 95 #[pt d,fv] W fun e w'=>e = .returned (.int .i64 8)∧FsPost W rl d D.step.1 w')
  (hg:D.falls≠1→Calls Tryz.prog 95 #[pt d,fv] W fun e w'=>e = .returned (.int .i64 0)∧FsPost W rl d (f { D with falls:=D.falls - 1 }) w') :
  Calls Tryz.prog 95 #[pt d,fv] W fun e w'=>e = .returned (.int .i64 ((D.then f).2:Nat))∧FsPost w rl d (D.then f).1 w':=by
 have hT' : Turned (fun b=>rl b≠0) w W:=hT.mono fun _ _ q=>q.elim
 by_cases h1:D.falls=1
 ·rw [Dk.then_dies h1]
  refine (hd h1).mono fun e w' ⟨q1,q2⟩=>⟨q1,FsPostC.after ?_ hT'⟩
  rcases D.step_cases with ⟨z,-⟩|⟨-,z⟩
  ·exact absurd h1 z
  ·rw [z]at q2;exact q2
 ·rw [Dk.then_goes h1]
  exact (hg h1).mono fun e w' ⟨q1,q2⟩=>⟨q1,FsPostC.after q2 hT'⟩
theorem FsAt.dies {w:World} {rl:Nat→Nat} {d ms mf:Nat} {pv:Value} {F:Nat→Nat} {D:Dk} (h:FsAt w rl d ms mf pv F D) (h1:D.falls=1) (fv:Value) :
  Calls Tryz.prog 95 #[pt d,fv] w fun e w'=>e = .returned (.int .i64 8)∧FsPost w rl d D.step.1 w':=
 (step_dies h h1 fv).mono fun e w' ⟨q1,q2,q3⟩=>⟨q1,q2.post (q3.mono fun i _ q=>by rw [q,h.r1];decide)⟩
theorem FsAt.own {w w' : World} {rl:Nat→Nat} {d ms mf:Nat} {pv:Value} {F:Nat→Nat} {D:Dk} (h:FsAt w rl d ms mf pv F D) (ht:Turned (· = d) w w'):Turned (fun b=>rl b≠0) w w':=
 ht.mono fun i _ q=>by rw [q,h.r1];decide
theorem dk_fell {D:Dk} (h:D.Ok):Dk.Ok { D with falls:=D.falls - 1 }:=h.falls (D.falls - 1) D.off (Nat.le_trans (Nat.sub_le _ _) h.fall)
theorem fremove_any {w:World} {rl:Nat→Nat} {d ms mf:Nat} {pv:Value} {F:Nat→Nat} {D:Dk} (h:FsAt w rl d ms mf pv F D) (hok:D.Ok) (hp:D.pend.length≤1000000000) (name:ByteArray) :
  Calls Tryz.prog 38 #[pt d,.string name] w fun e w'=>e = .returned (.int .i64 ((D.remove name).2:Nat))∧FsPost w rl d (D.remove name).1 w':=by
 have hb:=h.bnd d (by rw [h.r1];decide)
 obtain ⟨T0,x0,x1⟩:=two_boxes (w:=w) (.cells #[pt d] 33) (.cells #[.string name] 9)
 generalize hW:(w.alloc (.cells #[pt d] 33)).alloc (.cells #[.string name] 9)=W0 at T0 x0 x1
 have h' : FsAt W0 rl d ms mf pv F D:=h.turned T0 fun _ _ q=>q
 have hfi:=ffind_any h' name
 have z0:rl w.heap.size=0:=by
  by_cases q:rl w.heap.size=0
  ·exact q
  ·have:=h.bnd _ q;omega
 have z1:rl (w.heap.size+1)=0:=by
  by_cases q:rl (w.heap.size+1)=0
  ·exact q
  ·have:=h.bnd _ q;omega
 cases hf:D.file name with
 |error k=>
  have HK:Hid (k≠0):=file_err hf
  have HR:Hid (D.remove name=(D,k)):=hidS (by simp [Dk.remove,hf])
  have hk0:((k:Int) != 0)=true:=by have:=HK.out;simp;omega
  have HP:Hid (FsPost w rl d D W0):=h'.post (T0.mono fun _ _ q=>q.elim)
  rw [hf]at hfi
  replace hfi:Calls Tryz.prog 88 #[pt d,.string name] W0 fun e w'=>e = .returned (.tuple #[.pointer none,.int .i64 (k:Nat)])∧W0=w':=hfi
  subst hW
  clear h h' hf x0 x1 T0 hok z0 z1
  rw [HR.out]
  go_enter Tryz.func38,Tryz.ntmps38
  go_wp2_with (go_at_call 88;(with_reducible refine hfi.mono ?_);rintro e w' ⟨rfl,rfl⟩)
  go_ret
  exact ⟨rfl,HP.out⟩
 |ok k=>
  have hne:name≠emp:=hok.seenOk.ne _ (Dk.file_live hf)
  have HR:Hid (D.remove name=D.then fun d=>d.change ⟨name,emp,0⟩):=hidS (by simp [Dk.remove,hf])
  have hst:Calls Tryz.prog 95 #[pt d,.func (.func 100) #[] #[pt w.heap.size,pt (w.heap.size+1)]] W0 fun e w'=>e = .returned (.int .i64 ((D.remove name).2:Nat))∧FsPost w rl d (D.remove name).1 w':=by
   rw [HR.out]
   refine then_of T0 (fun h1=>h'.dies h1 _) fun h1=>?_
   refine step_goes100 h' h1 hok.fall _ _ fun w1 q1 q2 q3=>?_
   have y0:=cell_of (boxed x0 q2 fun q=>by rw [q,h.r1]at z0;omega) 0 _ rfl
   have y1:=cell_of (boxed x1 q2 fun q=>by rw [q,h.r1]at z1;omega) 0 _ rfl
   exact (fremove1_any q1 (dk_fell hok) hp name hne _ _ y0 y1).mono fun e w' ⟨a1,a2⟩=>⟨a1,a2.after (h'.own q2)⟩
  rw [hf]at hfi
  replace hfi:Calls Tryz.prog 88 #[pt d,.string name] W0 fun e w'=>e = .returned (.tuple #[pt (F k),.int .i64 0])∧W0=w':=hfi
  subst hW
  generalize D.remove name=R at *
  clear h h' hf x0 x1 T0 hok z0 z1 hne HR
  go_enter Tryz.func38,Tryz.ntmps38
  go_wp2_with (first|(go_at_call 88;(with_reducible refine hfi.mono ?_);rintro e w' ⟨rfl,rfl⟩)|(go_at_call 95;(with_reducible refine hst.mono ?_);rintro e w' ⟨rfl,q⟩;replace q:Hid _:=hidS q))
  go_ret
  exact ⟨rfl,q.out⟩
def NewPost (w:World) (q:Int) (e:Ending) (w' : World):Prop:=
 (newDk q=none∧e = .returned (.tuple #[.pointer none,.int .i64 1])∧w'=w) ∨
 ∃ D d,newDk q=some D∧e = .returned (.tuple #[pt d,.int .i64 0])∧FsIs w' (fun b=>w.heap.size≤b) d D∧Turned (fun _=>False) w w'
theorem new_at {w:World} (q:Nat):FsAt (((w.alloc (.map #[] 0)).alloc (.map #[] 0)).alloc (.cells #[.int .i64 (q:Nat),.int .i64 0,.map (some w.heap.size),.map (some (w.heap.size+1)),.slice none 0 0,.int .i64 0,.bool false] 148))
  (fun b=>if b=w.heap.size+1+1 then 1 else if b=w.heap.size then 2 else if b=w.heap.size+1 then 3 else 0) (w.heap.size+1+1) w.heap.size (w.heap.size+1) (.slice none 0 0) (fun _=>0) ⟨q,[],[],[],[],0,false⟩:=by
 obtain ⟨-,x0,x1⟩:=two_boxes (w:=w) (.map #[] 0) (.map #[] 0)
 have y0:=Go.Mine.heap_alloc_old (o:=.cells #[.int .i64 (q:Nat),.int .i64 0,.map (some w.heap.size),.map (some (w.heap.size+1)),.slice none 0 0,.int .i64 0,.bool false] 148) x0
 have y1:=Go.Mine.heap_alloc_old (o:=.cells #[.int .i64 (q:Nat),.int .i64 0,.map (some w.heap.size),.map (some (w.heap.size+1)),.slice none 0 0,.int .i64 0,.bool false] 148) x1
 have y2:=Go.Mine.heap_alloc_new ((w.alloc (.map #[] 0)).alloc (.map #[] 0)) (.cells #[.int .i64 (q:Nat),.int .i64 0,.map (some w.heap.size),.map (some (w.heap.size+1)),.slice none 0 0,.int .i64 0,.bool false] 148)
 have hz:((w.alloc (.map #[] 0)).alloc (.map #[] 0)).heap.size=w.heap.size+1+1:=by simp
 rw [hz]at y2
 have em:∀ v,mapN (fun _=>0) ([]:Nms) v=none:=fun v=>by cases v <;> rfl
 have r2:(fun b=>if b=w.heap.size+1+1 then 1 else if b=w.heap.size then 2 else if b=w.heap.size+1 then 3 else 0) w.heap.size=2:=by
  simp only []
  rw [if_neg (by omega),if_pos trivial]
 have r3:(fun b=>if b=w.heap.size+1+1 then 1 else if b=w.heap.size then 2 else if b=w.heap.size+1 then 3 else 0) (w.heap.size+1)=3:=by
  simp only []
  rw [if_neg (by omega),if_neg (by omega),if_pos trivial]
 refine ⟨by simp,r2,r3,by simpa [Blk] using y2,⟨#[],0,y0,by simp,by simp,(fun k v hv=>by rw [em]at hv;cases hv),by simp,rfl⟩,⟨#[],0,y1,by simp,by simp,(fun k v hv=>by rw [em]at hv;cases hv),by simp,rfl⟩,Sl.nil _ _ _ _,?_,?_,⟨#[],0,y0,by simp,by simp⟩,⟨#[],0,y1,by simp,by simp⟩⟩
 ·rintro k (⟨x,hx,-⟩|⟨x,hx,-⟩|⟨x,hx,-⟩) <;> simp at hx
 ·intro b hb
  have hz2:=lt_of_block y2
  by_cases q1:b=w.heap.size+1+1
  ·omega
  ·by_cases q2 : b = w.heap.size
   ·omega
   ·by_cases q3 : b = w.heap.size + 1
    ·omega
    ·simp [q1,q2,q3]at hb
theorem fnew_any (q:Int) (w:World):Calls Tryz.prog 24 #[.int .i64 q] w (NewPost w q):=by
 obtain ⟨P,hP⟩:∃ P,P=NewPost w q:=⟨_,rfl⟩
 have HP:Hid (P=NewPost w q):=hP
 rw [←hP]
 clear hP
 have hmm:=@run_makeMap Tryz.prog
 by_cases h1:q<0
 ·have HN : Hid (newDk q = none) := hidS (by simp [newDk, h1])
  have e1:decide (q<0)=true:=decide_eq_true h1
  clear h1
  go_enter Tryz.func24,Tryz.ntmps24
  go_wp2
  rw [HP.out]
  exact .inl ⟨HN.out,rfl,rfl⟩
 by_cases h2:16777216<q
 ·have HN : Hid (newDk q = none) := hidS (by simp [newDk, h2])
  have e1:decide (q<0)=false:=decide_eq_false h1
  have e2:decide ((16777216:Int)<q)=true:=decide_eq_true h2
  clear h1 h2
  go_enter Tryz.func24,Tryz.ntmps24
  go_wp2
  rw [HP.out]
  exact .inl ⟨HN.out,rfl,rfl⟩
 ·obtain ⟨m, rfl⟩ : ∃ m : Nat, q = (m : Nat) := ⟨q.toNat, by omega⟩
  have HN:Hid (newDk (m:Nat)=some ⟨m,[],[],[],[],0,false⟩):=hidS (by
   unfold newDk
   rw [if_neg (by rintro (z|z) <;> omega)]
   simp)
  have e1:decide ((m:Int)<0)=false:=decide_eq_false h1
  have e2:decide ((16777216:Int)<(m:Int))=false:=decide_eq_false h2
  have e3:decide (16777216<m)=false:=decide_eq_false (by omega)
  clear h1 h2
  go_enter Tryz.func24,Tryz.ntmps24
  go_wp2
  rw [HP.out]
  refine .inr ⟨_,w.heap.size+1+1,HN.out,rfl,⟨_,_,_,_,_,new_at m,fun b hb=>?_⟩,((Turned.alloc _ _ _).new _).new _⟩
  by_cases q1:b=w.heap.size+1+1
  ·omega
  ·by_cases q2 : b = w.heap.size
   ·omega
   ·by_cases q3 : b = w.heap.size + 1
    ·omega
    ·simp [q1,q2,q3]at hb
def fcellsR (l:List Fl):List Value:=l.flatMap fun x=>[.string x.bytes,.int .i64 (x.safe:Nat)]
def ncellsR (l:Nms):List Value:=l.flatMap fun x=>[.string x.1,.int .i64 (x.2:Nat)]
def ccellsR (l:List Chg):List Value:=l.flatMap fun c=>[.string c.gone,.string c.come,.int .i64 (c.file:Nat)]
theorem fcellsR_get:∀ {l:List Fl} {i:Nat} {x:Fl},l[i]? = some x→(fcellsR l)[2 * i]? = some (.string x.bytes)∧(fcellsR l)[2 * i+1]? = some (.int .i64 (x.safe:Nat))
  | [],_,_,h=>by simp at h
  |y :: l,0,x,h=>by simp at h;subst h;simp [fcellsR]
  |y :: l,i+1,x,h=>by
    have:=fcellsR_get (l:=l) (i:=i) (by simpa using h)
    simpa [fcellsR,Nat.mul_add,Nat.add_right_comm] using this
theorem ncellsR_get:∀ {l:Nms} {i:Nat} {x:ByteArray×Nat},l[i]? = some x→(ncellsR l)[2 * i]? = some (.string x.1)∧(ncellsR l)[2 * i+1]? = some (.int .i64 (x.2:Nat))
  | [],_,_,h=>by simp at h
  |y :: l,0,x,h=>by simp at h;subst h;simp [ncellsR]
  |y :: l,i+1,x,h=>by
    have:=ncellsR_get (l:=l) (i:=i) (by simpa using h)
    simpa [ncellsR,Nat.mul_add,Nat.add_right_comm] using this
theorem fcellsR_app (l m:List Fl):fcellsR (l ++ m)=fcellsR l ++ fcellsR m:=by simp [fcellsR]
theorem ncellsR_app (l m:Nms):ncellsR (l ++ m)=ncellsR l ++ ncellsR m:=by simp [ncellsR]
theorem ccellsR_app (l m:List Chg):ccellsR (l ++ m)=ccellsR l ++ ccellsR m:=by simp [ccellsR]
structure RkAt (w:World) (rl:Nat→Nat) (r:Nat) (fv sv av pv:Value) (D:Dk):Prop where
  r1:rl r=1
  blk:Blk w r #[.int .i64 (D.quota:Nat),fv,sv,av,pv,.int .i64 (D.falls:Nat),.bool D.off] 200
  files:Sl w (fun b=>rl b=2) 244 2 fv (fcellsR D.files) D.files.length
  seen:Sl w (fun b=>rl b=3) 242 2 sv (ncellsR D.seen) D.seen.length
  safe:Sl w (fun b=>rl b=4) 242 2 av (ncellsR D.safe) D.safe.length
  pend:Sl w (fun b=>rl b=5) 240 3 pv (ccellsR D.pend) D.pend.length
  bnd:∀ b,rl b≠0→b<w.heap.size
section
variable {w w' : World} {rl:Nat→Nat} {r:Nat} {fv sv av pv:Value} {D:Dk}
theorem RkAt.turned {T:Nat→Prop} (h:RkAt w rl r fv sv av pv D) (ht:Turned T w w') (hT:∀ b,rl b≠0→¬ T b):RkAt w' rl r fv sv av pv D:=
  ⟨h.r1,(ht.block _ (lt_of_block h.blk) (hT _ (by rw [h.r1];decide))).trans h.blk,h.files.turned ht fun b hb=>hT b (by omega),h.seen.turned ht fun b hb=>hT b (by omega),h.safe.turned ht fun b hb=>hT b (by omega),
    h.pend.turned ht fun b hb=>hT b (by omega),fun b hb=>Nat.lt_of_lt_of_le (h.bnd b hb) ht.size⟩
theorem RkAt.roles {rl' : Nat→Nat} (h:RkAt w rl r fv sv av pv D) (h1:∀ b,rl b≠0→rl' b=rl b) (h2:∀ b,rl' b≠0→b<w.heap.size):RkAt w rl' r fv sv av pv D:=
  ⟨(h1 _ (by rw [h.r1]; decide)).trans h.r1, h.blk, h.files.widen fun b hb => (h1 b (by omega)).trans hb, h.seen.widen fun b hb => (h1 b (by omega)).trans hb, h.safe.widen fun b hb => (h1 b (by omega)).trans hb,
    h.pend.widen fun b hb=>(h1 b (by omega)).trans hb,h2⟩
theorem RkAt.put {D' : Dk} {rl' : Nat→Nat} {fv' sv' av' pv' : Value} (h:RkAt w rl r fv sv av pv D) (hr:rl' r=1)
    (hb:Blk w' r #[.int .i64 (D'.quota:Nat),fv',sv',av',pv',.int .i64 (D'.falls:Nat),.bool D'.off] 200)
    (h1:Sl w' (fun b=>rl' b=2) 244 2 fv' (fcellsR D'.files) D'.files.length) (h2:Sl w' (fun b=>rl' b=3) 242 2 sv' (ncellsR D'.seen) D'.seen.length)
    (h3:Sl w' (fun b=>rl' b=4) 242 2 av' (ncellsR D'.safe) D'.safe.length) (h4:Sl w' (fun b=>rl' b=5) 240 3 pv' (ccellsR D'.pend) D'.pend.length) (hn:∀ b,rl' b≠0→b<w'.heap.size) :
    RkAt w' rl' r fv' sv' av' pv' D':=⟨hr,hb,h1,h2,h3,h4,hn⟩
end
def RkIs (w:World) (S:Nat→Prop) (r:Nat) (D:Dk):Prop:=∃ rl fv sv av pv,RkAt w rl r fv sv av pv D∧∀ b,rl b≠0→S b
theorem RkIs.turned {w w' : World} {S T:Nat→Prop} {r:Nat} {D:Dk} (h:RkIs w S r D) (ht:Turned T w w') (hT:∀ b,S b→¬ T b):RkIs w' S r D:=by
  obtain ⟨rl,fv,sv,av,pv,h1,h2⟩:=h
  exact ⟨rl,fv,sv,av,pv,h1.turned ht fun b hb=>hT b (h2 b hb),h2⟩
theorem RkIs.widen {w:World} {S T:Nat→Prop} {r:Nat} {D:Dk} (h:RkIs w S r D) (hT:∀ b,b<w.heap.size→S b→T b):RkIs w T r D:=by
  obtain ⟨rl,fv,sv,av,pv,h1,h2⟩:=h
  exact ⟨rl,fv,sv,av,pv,h1,fun b hb=>hT b (h1.bnd b hb) (h2 b hb)⟩
end Go.Proofs.YtofcogekgcgjhaaGreatDoor
namespace Go.Proofs.YtofcogekgcgjhaaGreatDoor
open Go.RowKit Go.Mine Go.Mine.Ac
theorem FsAt.tset {w w' : World} {rl:Nat→Nat} {d ms mf:Nat} {pv:Value} {F:Nat→Nat} {D:Dk} {k:Nat} (h:FsAt w rl d ms mf pv F D) (hf:rl (F k)=5+2 * k) (ht:Turned (fun b=>b=F k∨rl b=6+2 * k) w w'):Turned (fun b=>rl b≠0) w w':=
 ht.mono fun i _ q=>q.elim (fun q=>by rw [q,hf];omega) fun q=>by omega
theorem FsAt.setPost {w w' : World} {rl:Nat→Nat} {d ms mf:Nat} {pv:Value} {F:Nat→Nat} {D:Dk} (h:FsAt w rl d ms mf pv F D) {k:Nat} {x y:Fl} (hk:D.files[k]? = some x) (hf:FileAt w rl F k x) {bv:Value}
  (ht:Turned (fun b=>b=F k∨rl b=6+2 * k) w w') (hb:Blk w' (F k) #[.int .i64 (k:Nat),bv,.int .i64 (y.safe:Nat)] 157)
  (hs:Sl w' (fun b=>rl b=6+2 * k∨w.heap.size≤b) 5 1 bv (bcells y.bytes.data.toList) y.bytes.size):FsPost w rl d (D.setF k y) w':=
 ⟨_,ms,mf,pv,F,h.setAt hk hf ht hb (sl_widenB hs fun b hb q=>q.elim (fun q=>(newR_old (h.bnd b (by omega))).trans q) fun q=>newR_new q hb),fun b hb=>newR_or hb,h.tset hf.1 ht⟩
theorem FsPostC.draw {w w' : World} {rl:Nat→Nat} {d n:Nat} {D' : Dk} (h:FsPostC w rl d D' n w'):FsPostC w rl d D' n w'.drew:=by
 obtain ⟨rl',ms',mf',pv',F',h1,h2,h3⟩:=h
 exact ⟨rl',ms',mf',pv',F',h1.turned (Turned.drew (fun _=>False) _) fun _ _ q=>q,h2,h3.draw⟩
theorem fsync1_any {w:World} {rl:Nat→Nat} {d ms mf:Nat} {pv:Value} {F:Nat→Nat} {D:Dk} (h:FsAt w rl d ms mf pv F D) {k:Nat} {x:Fl} (hk:D.files[k]? = some x) (hf:FileAt w rl F k x) (b0:Nat)
  (h0:w.cell? ⟨b0,0,none⟩=some (pt (F k))) :
  Calls Tryz.prog 235 #[pt b0] w fun e w'=>e = .returned (.tuple #[])∧FsPost w rl d (D.setF k ⟨x.bytes,x.bytes.size⟩) w':=by
 obtain ⟨hr,bv,hb,hs⟩:=hf
 obtain ⟨a,cap,hbv,-,-⟩:=hs.value
 subst hbv
 have c1:=cell_of hb 1 _ rfl
 have c2:=cell_of hb 2 _ rfl
 have f2:=free_of hb 2
 have hlt:=lt_of_block hb
 have key:Hid (FsPost w rl d (D.setF k ⟨x.bytes,x.bytes.size⟩) (w.setCell ⟨F k,2,none⟩ (.int .i64 (x.bytes.size:Nat)))):=hidS (by
  have t:Turned (· = F k) w (w.setCell ⟨F k,2,none⟩ (.int .i64 (x.bytes.size:Nat))):=Turned.setCell (S:=(· = F k)) (p:=⟨F k,2,none⟩) rfl _
  refine h.setPost hk ⟨hr,_,hb,hs⟩ (t.mono fun i _ q=>.inl q) (bv:=.slice a x.bytes.size cap) ?_ ?_
  ·have := Go.Mine.heap_setCell_same hb (o := 2) (.int .i64 (x.bytes.size : Nat))
   simpa [Blk] using this
  ·exact (hs.turned t fun b hb q=>by rw [q,hr]at hb;omega).widen fun b q=>.inl q)
 clear h hk hs hb hr
 go_enter Tryz.func235,Tryz.ntmps235
 go_region
 all_goals go_wp2
 all_goals go_end0
 all_goals first|exact ⟨rfl,key.out⟩|exact ⟨rfl,key.out.draw⟩
theorem frename1_any {w:World} {rl:Nat→Nat} {d ms mf:Nat} {pv:Value} {F:Nat→Nat} {D:Dk} (h:FsAt w rl d ms mf pv F D) (hok:D.Ok) (hp:D.pend.length≤1000000000) (a b:ByteArray) (ha:a≠emp) (hb:b≠emp) {k:Nat} {x:Fl} (hk:D.files[k]? = some x) (hf:FileAt w rl F k x) (b0 b1 b2 b3:Nat)
  (h0:w.cell? ⟨b0,0,none⟩=some (.string a)) (h1:w.cell? ⟨b1,0,none⟩=some (.string b)) (h2:w.cell? ⟨b2,0,none⟩=some (pt d)) (h3:w.cell? ⟨b3,0,none⟩=some (pt (F k))) :
  Calls Tryz.prog 303 #[pt b0,pt b1,pt b2,pt b3] w fun e w'=>e = .returned (.tuple #[])∧FsPost w rl d (if a=b then D else D.change ⟨a,b,k⟩) w':=by
 by_cases hab:a=b
 ·subst hab
  have HP:Hid (FsPost w rl d D w):=h.post (Turned.refl _ _)
  have hbeq:(a.toList == a.toList)=true:=by simp
  rw [if_pos rfl]
  clear h hok hp hk hf
  go_enter Tryz.func303,Tryz.ntmps303
  go_wp2
  go_end0
  exact ⟨rfl,HP.out⟩
 ·have hc := fchange_any h hok.seenOk ⟨a, b, k⟩ (fun _ => ⟨x, hk, hf⟩) hp
  have e:(pcell F ⟨a,b,k⟩).toArray = #[.string a,.string b,pt (F k)]:=by unfold pcell;rw [if_neg ha,if_neg hb]
  have hbeq:(a.toList == b.toList)=false:=by
   rw [ByteArray.toList_eq,ByteArray.toList_eq]
   simp only [beq_eq_false_iff_ne,ne_eq]
   exact fun q=>hab (ByteArray.ext (Array.toList_inj.1 q))
  rw [e]at hc
  rw [if_neg hab]
  clear h hok hp hk hf e hab ha hb
  go_enter Tryz.func303,Tryz.ntmps303
  go_wp2_with (go_at_call 97;(with_reducible refine hc.mono ?_);rintro e w' ⟨rfl,q⟩;replace q:Hid _:=hidS q)
  go_end0
  exact ⟨rfl,q.out⟩
theorem cell_at {w w' : World} {T:Nat→Prop} {b o:Nat} {v:Value} (h:w.cell? ⟨b,o,none⟩=some v) (ht:Turned T w w') (hT:¬ T b):w'.cell? ⟨b,o,none⟩=some v:=
 (World.cell?_of_block (w:=w) (w':=w') (a:=⟨b,o,none⟩) (ht.block b (lt_of_cell h) hT)).trans h
theorem bsize (s:ByteArray):s.data.toList.length=s.size:=by rw [Array.length_toList];rfl
set_option maxHeartbeats 1000000 in
theorem fappend1_any {w:World} {rl:Nat→Nat} {d ms mf:Nat} {pv:Value} {F:Nat→Nat} {D:Dk} (h:FsAt w rl d ms mf pv F D) {k:Nat} {x:Fl} (hk:D.files[k]? = some x) (hf:FileAt w rl F k x) (text:ByteArray)
  (hl:x.bytes.size+text.size≤1000000000) (b0 b1:Nat) (z0:rl b0=0) (z1:rl b1=0) (h0:w.cell? ⟨b0,0,none⟩=some (pt (F k))) (h1:w.cell? ⟨b1,0,none⟩=some (.string text)) :
  Calls Tryz.prog 98 #[pt b0,pt b1] w fun e w'=>e = .returned (.tuple #[])∧FsPost w rl d (D.setF k ⟨x.bytes ++ text,x.safe⟩) w':=by
 have H:Hid (FsAt w rl d ms mf pv F D∧D.files[k]? = some x∧FileAt w rl F k x):=⟨h,hk,hf⟩
 obtain ⟨hr,bv,hb,hs⟩:=hf
 obtain ⟨a,cap,hbv,-,-⟩:=hs.value
 subst hbv
 have c1:=cell_of hb 1 _ rfl
 have f1:=free_of hb 1
 have hlt:=lt_of_block hb
 obtain ⟨n,hn⟩:∃ n,n=x.bytes.size:=⟨_,rfl⟩
 have HN:Hid (n=x.bytes.size):=hn
 rw [←hn]at c1
 have HSL:Hid (Sl w.drew (fun b=>rl b=6+2 * k) 5 1 (.slice a n cap) (bcells x.bytes.data.toList) n):=by rw [hn];exact hs.drew
 have HSRC:Hid (Src Tryz.prog 1 9 (.string text) text.size (byteCells text) w.drew):=Src.ofString w.drew Tryz.underlying9 text
 have m1:Hid (n+text.size≤maxLen∧(n+text.size) * 1≤140737488355328):=hidS ⟨by rw [hn];simp only [maxLen];omega,by rw [hn];omega⟩
 have K2:Hid (∀ w2:World,Turned (fun b=>rl b=6+2 * k) w.drew w2→w2.heap[F k]? = some (.cells #[.int .i64 (k:Nat),.slice a n cap,.int .i64 (x.safe:Nat)] 157)∧w2.cell? ⟨F k,1,none⟩=some (.slice a n cap)∧w2.frozen? ⟨F k,1,none⟩=false∧F k<w2.heap.size∧w2.cell? ⟨b0,0,none⟩=some (pt (F k))∧w2.cell? ⟨b1,0,none⟩=some (.string text)):=hidS fun w2 ht=>by
  have hb2:w2.heap[F k]? = _:=(ht.block (F k) hlt (by rw [hr];omega)).trans hb
  rw [←hn]at hb2
  have e0:=ht.block b0 (lt_of_cell h0) (by rw [z0];omega)
  have e1:=ht.block b1 (lt_of_cell h1) (by rw [z1];omega)
  exact ⟨hb2,cell_of hb2 1 _ rfl,free_of hb2 1,lt_of_block hb2,(World.cell?_of_block (w:=w) (w':=w2) (a:=⟨b0,0,none⟩) e0).trans h0,(World.cell?_of_block (w:=w) (w':=w2) (a:=⟨b1,0,none⟩) e1).trans h1⟩
 clear h hk hs hb hl hn hr z0 z1
 go_enter Tryz.func98,Tryz.ntmps98
 go_region_law ((refine step_append (by rfl) _ _ 83 9 (by rfl) HSL.out Tryz.underlying83 info5 rfl (by decide) (by rfl) (.string text) (by rfl) HSRC.out m1.out.1 m1.out.2 ?_;intro v' w2 hsl ht2;obtain ⟨a3,cap3,hv3,-,-⟩:=hsl.value;subst hv3;obtain ⟨q1,q2,q3,q4,q5,q6⟩:=K2.out w2 ht2;replace q1:Hid _:=hidS q1;have HQ:Hid (Sl w2 _ 5 1 _ _ (n+text.size)∧Turned _ _ w2):=⟨hsl,ht2⟩;clear hsl ht2))
 all_goals go_wp2
 all_goals go_end0
 all_goals
  refine ⟨rfl,?_⟩
  obtain ⟨hh,hk,hf⟩:=H.out
  obtain ⟨s1,s2⟩:=HQ.out
  have t2:Turned (· = F k) w2 (w2.setCell ⟨F k,1,none⟩ (.slice a3 (n+text.size) cap3)):=Turned.setCell (S:=(· = F k)) (p:=⟨F k,1,none⟩) rfl _
  have T:Turned (fun b=>b=F k∨rl b=6+2 * k) w (w2.setCell ⟨F k,1,none⟩ (.slice a3 (n+text.size) cap3)):=((Turned.drew (fun _=>False) w).comp s2 (T:=fun b=>rl b=6+2 * k) fun i _ q=>q.elim False.elim id).comp t2 fun i _ q=>q.elim .inr .inl
  refine hh.setPost hk hf T (bv:=.slice a3 (n+text.size) cap3) ?_ ?_
  ·have := Go.Mine.heap_setCell_same q1.out (o := 1) (.slice a3 (n + text.size) cap3)
   simpa [Blk] using this
  ·have e1 : bcells (x.bytes ++ text).data.toList = bcells x.bytes.data.toList ++ byteCells text := by rw [byteCells_eq, ← bcells_append]; simp
   have e2:(x.bytes ++ text).size=n+text.size:=by rw [ByteArray.size_append,HN.out]
   rw [e1,e2]
   have hrr:=hf.1
   have hsz:w.drew.heap.size=w.heap.size:=rfl
   exact (s1.turned t2 fun b hb q=>by rcases hb with hb|hb <;> (rw [q]at hb;omega)).widen fun b hb=>hb
theorem perm_sum {l m:List Nat} (h:l.Perm m):l.sum=m.sum:=by
  induction h with
  |nil=>rfl
  |cons x _ ih=>rw [List.sum_cons,List.sum_cons,ih]
  |swap x y r=>rw [List.sum_cons,List.sum_cons,List.sum_cons,List.sum_cons];omega
  |trans _ _ h1 h2=>exact h1.trans h2
theorem mapN_keys {w:World} {b n:Nat} {F:Nat→Nat} {l:Nms} (h:MapIs KStr w b (mapN F l) n) (hn:(l.map (·.1)).Nodup) {es:Array MapEntry} {clock:Nat} (hb:w.heap[b]? = some (.map es clock)) :
    (es.toList.map (·.key)).Perm ((l.map (·.1)).map Value.string)∧∀ e∈es.toList,∃ s k,e.key = .string s∧findN l s=some k∧e.val=pt (F k):=by
  obtain ⟨es',clock',h1,h2,h3,h4,h5,h6⟩:=h
  rw [hb]at h1
  simp only [Option.some.injEq,Obj.map.injEq]at h1
  obtain ⟨rfl,rfl⟩:=h1
  have he:∀ e∈es.toList,∃ s k,e.key = .string s∧findN l s=some k∧e.val=pt (F k):=by
    intro e he
    have:=h3 e he
    cases hke:e.key with
    |string s=>
      rw [hke]at this
      obtain ⟨j,hj,q⟩:=Option.map_eq_some_iff.1 this
      exact ⟨s,j,rfl,hj,q.symm⟩
    |_=>rw [hke]at this;simp [mapN]at this
  refine ⟨?_,he⟩
  have n1:(es.toList.map (·.key)).Nodup:=by
    rw [List.nodup_iff_pairwise_ne,List.pairwise_map]
    exact h5
  have n2:((l.map (·.1)).map Value.string).Nodup:=nodup_map _ (fun a b q=>by injection q) hn
  rw [List.perm_ext_iff_of_nodup n1 n2]
  intro k
  constructor
  · intro hk
    obtain ⟨e,he1,rfl⟩:=List.mem_map.1 hk
    obtain ⟨s,j,e1,e2,e3⟩:=he e he1
    rw [e1]
    exact List.mem_map.2 ⟨s,List.mem_map.2 ⟨_,findN_mem e2,rfl⟩,rfl⟩
  · intro hk
    obtain ⟨s,hs,rfl⟩:=List.mem_map.1 hk
    obtain ⟨x,hx,rfl⟩:=List.mem_map.1 hs
    have:=findN_of_mem hn (show (x.1,x.2)∈l from hx)
    obtain ⟨e,he,hk⟩:=h4 (.string x.1) (pt (F x.2)) (by simp [mapN,this])
    exact List.mem_map.2 ⟨e,he,hk⟩
def szK (D:Dk):Value→Nat
  | .string s=>match findN D.seen s with|some k=>(D.at k).bytes.size|none=>0
  |_=>0
theorem used_es {D:Dk} {es:List MapEntry} (hn:(D.seen.map (·.1)).Nodup) (h:(es.map (·.key)).Perm ((D.seen.map (·.1)).map Value.string)):(es.map fun e=>szK D e.key).sum=D.used:=by
  have h1:(es.map fun e=>szK D e.key)=(es.map (·.key)).map (szK D):=by rw [List.map_map];rfl
  rw [h1,perm_sum (h.map (szK D)),List.map_map,List.map_map]
  unfold Dk.used
  congr 1
  apply List.map_congr_left
  intro x hx
  simp only [Function.comp,szK,findN_of_mem hn (show (x.1,x.2)∈D.seen from hx)]
def UsRel (D:Dk) (es:Array MapEntry) (clock ms r:Nat) (w1:World) (g:Nat) (nv:Value) (wr:World):Prop:=
  ∃ (seen:Array Nat) (vis:List MapEntry) (c0:Nat),(leftOf es seen).size=g∧nv = .int .i64 (((vis.map fun e=>szK D e.key).sum:Nat):Int)∧Visit es seen vis ∧
    wr.heap[r]? = some (.mapIter (some ms) clock seen c0)∧clock≤c0∧wr.heap[ms]? = some (.map es clock)∧Turned (· = r) w1 wr
theorem fused_any {w:World} {rl:Nat→Nat} {d ms mf:Nat} {pv:Value} {F:Nat→Nat} {D:Dk} (h:FsAt w rl d ms mf pv F D) (hok:D.Ok) :
    Calls Tryz.prog 35 #[pt d] w fun e w'=>e = .returned (.int .i64 (D.used:Nat))∧Turned (fun _=>False) w w':=by
  obtain ⟨es,clock,hes,hbo,hbn⟩:=h.bs
  obtain ⟨hk,hent⟩:=mapN_keys h.seen hok.seenOk.nodup hes
  have hus:=used_es hok.seenOk.nodup hk
  have husm:=used_small hok
  have hrg:(Instr.range 145 (.map (some ms))).run Tryz.prog w = .ok (.pointer (some ⟨w.heap.size,0,none⟩)) (w.alloc (.mapIter (some ms) clock #[] clock)):=run_range_map w 145 9 153 ms _ _ Tryz.underlying145 hes
  have c2:=cell_of h.blk 2 _ rfl
  have hlt:=lt_of_block h.blk
  have msl:=h.seen.lt
  obtain ⟨r,hr⟩:∃ r,r=w.heap.size:=⟨_,rfl⟩
  obtain ⟨w1,hw1⟩:∃ w1,w1=w.alloc (.mapIter (some ms) clock #[] clock):=⟨_,rfl⟩
  have T1:Turned (fun _=>False) w w1:=by rw [hw1];exact Turned.alloc _ _ _
  have B0:Hid (UsRel D es clock ms r w1 (leftOf es #[]).size (.int .i64 0) w1):=
    ⟨#[],[],clock,rfl,rfl,Visit.start es,by rw [hw1,hr];exact heap_alloc_new _ _,Nat.le_refl _,by rw [hw1];exact (alloc_old _ msl).trans hes,Turned.refl _ _⟩
  have HC:Hid (∀ e∈es.toList,∃ b,e.val=pt b∧∀ wr,Turned (· = r) w1 wr→∃ a cap,wr.cell? ⟨b,1,none⟩=some (.slice a (szK D e.key) cap)):=hidS fun e he=>by
    obtain ⟨s,k,e1,e2,e3⟩:=hent e he
    obtain ⟨x,f1,f2⟩:=h.file k (.inl ⟨_,findN_mem e2,rfl⟩)
    obtain ⟨fr,bv,f3,f4⟩:=f2
    obtain ⟨a,cap,hbv,-,-⟩:=f4.value
    refine ⟨F k,e3,fun wr ht=>⟨a,cap,?_⟩⟩
    have hl:=lt_of_block f3
    have f5:=(ht.block (F k) (Nat.lt_of_lt_of_le hl T1.size) (by omega)).trans ((T1.block (F k) hl id).trans f3)
    have:szK D e.key=x.bytes.size:=by rw [e1];simp [szK,e2,Dk.at,f1]
    rw [this,←hbv]
    exact cell_of f5 1 _ rfl
  have HB:Hid (∀ x∈es.toList,x.born<clock):=hbo
  have HN:Hid ((es.toList.map (·.born)).Nodup):=hbn
  have HU:Hid ((es.toList.map fun e=>szK D e.key).sum=D.used∧D.used≤64 * 16777216):=⟨hus,husm⟩
  have HT1:Hid (Turned (fun _=>False) w w1):=T1
  have HR:Hid (r=w.heap.size):=hr
  have hwr:w.heap.size=r:=hr.symm
  rw [hwr,←hw1]at hrg
  clear hes hbo hbn hk hent hus husm T1 hw1 h hok hr hwr msl
  go_enter Tryz.func35,Tryz.ntmps35
  go_wp2
  go_loopg [3] (leftOf es #[]).size (fun g nv wr=>UsRel D es clock ms r w1 g nv wr)
  case atStart=>exact B0.out
  case round=>
    obtain ⟨seen,vis,c0,hg,rfl,hvis,hr,hc,hb,ht⟩:=hrel
    have HG:Hid ((leftOf es seen).size=gk):=hg
    have HV:Hid (Visit es seen vis):=hvis
    have HT:Hid (Turned (· = r) w1 wr):=ht
    have HS:Hid ((vis.map fun e=>szK D e.key).sum=(vis.map fun e=>szK D e.key).sum):=rfl
    obtain ⟨n,hn⟩:∃ n,n=(vis.map fun e=>szK D e.key).sum:=⟨_,rfl⟩
    have HNN:Hid (n=(vis.map fun e=>szK D e.key).sum):=hn
    rw [←hn]
    clear HS hn B0 hvis
    go_wp2_with (at_next; refine wpList_next_es wr rfl _ rfl r ms clock c0 seen es rfl hr hb HB.out HN.out hc ?_ ?_
                 (intro h0;have H0:Hid ((leftOf es seen).size=0):=h0;clear h0 hg hr hc hb ht)
                 rotate_left
                 intro e w3 hem hel hen hr3 hb3 ht3 hz3 hlt
                 have HL:Hid ((leftOf es (seen.push e.born)).size<gk):=(by rw [←hg];exact hlt:(leftOf es (seen.push e.born)).size<gk)
                 have R3:Hid (w3.heap[r]? = some (.mapIter (some ms) clock (seen.push e.born) clock)):=hr3
                 have B3:Hid (w3.heap[ms]? = some (.map es clock)):=hb3
                 have T3:Hid (Turned (· = r) w1 w3):=ht.trans ht3 fun _ _ q=>q
                 have V3:Hid (Visit es (seen.push e.born) (vis ++ [e])):=HV.out.step HN.out hel
                 obtain ⟨b,hval,hcell⟩:=HC.out e hem
                 obtain ⟨a,cap,k1⟩:=hcell w3 T3.out
                 have HW:Hid (n+szK D e.key≤1073741824∧wrap64 ((n:Int)+(szK D e.key:Nat))=((n+szK D e.key:Nat):Int)):=by
                   have h1:=(V3.out).length_eq
                   have h2:((vis ++ [e] ++ (leftOf es (seen.push e.born)).toList).map fun e=>szK D e.key).sum=D.used:=(perm_sum ((V3.out).map _)).trans HU.out.1
                   rw [List.map_append,List.map_append,List.sum_append,List.sum_append,List.map_cons,List.map_nil,List.sum_cons,List.sum_nil,←HNN.out]at h2
                   have h3:=HU.out.2
                   exact ⟨by omega,by simp only [wrap64];omega⟩
                 rw [hval]at hen ⊢
                 clear hem hel hr3 hb3 ht3 hz3 hlt hg hr hc hb ht hval hcell
                 obtain ⟨sz,hsz⟩:∃ sz,sz=szK D e.key:=⟨_,rfl⟩
                 have HSZ:Hid (sz=szK D e.key):=hsz
                 rw [←hsz]at k1 HW
                 obtain ⟨kk,hkk⟩:∃ kk,kk=e.key:=⟨_,rfl⟩
                 rw [←hkk]at hen ⊢
                 clear hsz hkk)
    all_goals first
      | (go_ret
         exact ⟨by rw [HNN.out,perm_sum (((HV.out).done H0.out).map _),HU.out.1];rfl,HT1.out.comp HT.out fun i hi q=>q.elim id fun q=>by have:=HR.out;omega⟩)
      | (go_roundg ((leftOf es (seen.push e.born)).size)
         case measure=>exact HL.out
         case rel=>exact ⟨seen.push e.born,vis ++ [e],clock,rfl,by rw [HW.out.2,List.map_append,List.sum_append,←HNN.out,HSZ.out];simp,V3.out,R3.out,Nat.le_refl _,B3.out,T3.out⟩)
end Go.Proofs.YtofcogekgcgjhaaGreatDoor
