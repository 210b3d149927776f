/- Packed. -/
import Derived.Shelf.SlMaps.Clone
import Derived.Test.YtofcogekgcgjhaaGreatDoorZzax
import Derived.Deep.RegionHeld3
set_option linter.unusedVariables false
set_option linter.unusedSimpArgs false
set_option maxRecDepth 100000
namespace Go.Proofs.YtofcogekgcgjhaaGreatDoor
open Go.RowKit Go.Mine Go.Mine.Ac
theorem syncN_done {w W:World} {rl:Nat→Nat} {d ms mf:Nat} {pv:Value} {F:Nat→Nat} {D:Dk} (h:FsAt w rl d ms mf pv F D) (hW:Turned (fun _=>False) w W) (es:Array MapEntry) (clock:Nat) (hes:w.heap[ms]? = some (.map es clock)) (nm:Nat) (hnm:nm=W.heap.size) :
  FsPost w rl d { D with safe:=D.seen,pend:=[] } (((W.alloc (.map es clock)).setCell ⟨d,3,none⟩ (.map (some nm))).setCell ⟨d,4,none⟩ (.slice none 0 0)):=by
 subst hnm
 have r1:=h.r1
 have hd:=h.bnd d (by rw [r1];decide)
 have hs:=hW.size
 have T0:Turned (· = d) (W.alloc (.map es clock)) (((W.alloc (.map es clock)).setCell ⟨d,3,none⟩ (.map (some W.heap.size))).setCell ⟨d,4,none⟩ (.slice none 0 0)):=((Turned.refl (· = d) _).set (p:=⟨d,3,none⟩) rfl _).set (p:=⟨d,4,none⟩) rfl _
 have TA:Turned (fun _=>False) w (W.alloc (.map es clock)):=hW.new _
 have T1:Turned (· = d) w (((W.alloc (.map es clock)).setCell ⟨d,3,none⟩ (.map (some W.heap.size))).setCell ⟨d,4,none⟩ (.slice none 0 0)):=TA.comp T0 fun i _ q=>q.elim False.elim id
 have hsz:(((W.alloc (.map es clock)).setCell ⟨d,3,none⟩ (.map (some W.heap.size))).setCell ⟨d,4,none⟩ (.slice none 0 0)).heap.size=W.heap.size+1:=by simp [setCell_size]
 have hA:=h.turned TA fun _ _ q=>q
 have hnew:(((W.alloc (.map es clock)).setCell ⟨d,3,none⟩ (.map (some W.heap.size))).setCell ⟨d,4,none⟩ (.slice none 0 0)).heap[W.heap.size]? = some (.map es clock):=
  (T0.block _ (by simp) (by omega)).trans (Go.Mine.heap_alloc_new _ _)
 have hms:(((W.alloc (.map es clock)).setCell ⟨d,3,none⟩ (.map (some W.heap.size))).setCell ⟨d,4,none⟩ (.slice none 0 0)).heap[ms]? = w.heap[ms]? := T1.block _ h.seen.lt fun q=>by have:=h.r2;rw [q,r1]at this;omega
 generalize hX:(((W.alloc (.map es clock)).setCell ⟨d,3,none⟩ (.map (some W.heap.size))).setCell ⟨d,4,none⟩ (.slice none 0 0))=X at *
 have K:=h.keepR X 3
 refine ⟨newR rl w X 3,ms,W.heap.size,.slice none 0 0,F,⟨(K _ (by omega)).trans r1,(K _ (by rw [h.r2];decide)).trans h.r2,newR_new hs (by omega),?_,?_,?_,Sl.nil _ _ _ _,fun k hk=>?_,fun b hb=>newR_bnd hb T1.size,?_,?_⟩,fun b hb=>newR_or hb,h.own T1⟩
 ·have a1 := Go.Mine.heap_setCell_same hA.blk (o := 3) (.map (some W.heap.size))
  have a2:=Go.Mine.heap_setCell_same a1 (o:=4) (.slice none 0 0)
  rw [hX]at a2
  simpa [Blk] using a2
 ·exact h.seen.congr hms fun _=>rfl
 ·obtain ⟨es', clock', g1, g2⟩ := h.seen
  rw [hes]at g1
  simp only [Option.some.injEq,Obj.map.injEq]at g1
  obtain ⟨rfl,rfl⟩:=g1
  exact ⟨es,clock,hnew,g2⟩
 ·have hk' : Live D k := by
   rcases hk with q|q|⟨c,hc,-⟩
   ·exact .inl q
   ·exact .inl q
   ·simp at hc
  obtain ⟨x,e1,e2⟩:=h.file k hk'
  exact ⟨x,e1,(e2.turned T1 fun b hb q=>by rw [q,r1]at hb;omega).roles K⟩
 ·exact h.bs.congr hms
 ·obtain ⟨es', clock', g1, g2⟩ := h.bs
  rw [hes]at g1
  simp only [Option.some.injEq,Obj.map.injEq]at g1
  obtain ⟨rfl,rfl⟩:=g1
  exact ⟨es,clock,hnew,g2⟩
set_option maxHeartbeats 1000000 in
theorem fsyncN1_any {w:World} {rl:Nat→Nat} {d ms mf:Nat} {pv:Value} {F:Nat→Nat} {D:Dk} (h:FsAt w rl d ms mf pv F D) (b0:Nat) (z0:rl b0=0) (h0:w.cell? ⟨b0,0,none⟩=some (pt d)) :
  Calls Tryz.prog 159 #[pt b0] w fun e w'=>e = .returned (.tuple #[])∧FsPost w rl d { D with safe:=D.seen,pend:=[] } w':=by
 obtain ⟨es,clock,hes,-⟩:=id h.seen
 have HM:Hid (∀ W,Turned (fun _=>False) w W→Calls Tryz.prog 91 #[.map (some ms)] W fun e w'=>e = .returned (.map (some W.heap.size))∧w'=W.alloc (.map es clock)):=hidS fun W hW=>
  AnyW.maps_Clone Tryz.mclone ms es clock W ((hW.block _ h.seen.lt id).trans hes)
 have HF:Hid (∀ W nm,Turned (fun _=>False) w W→nm=W.heap.size→FsPost w rl d { D with safe:=D.seen,pend:=[] } (((W.alloc (.map es clock)).setCell ⟨d,3,none⟩ (.map (some nm))).setCell ⟨d,4,none⟩ (.slice none 0 0))):=hidS fun W nm hW hn=>syncN_done h hW es clock hes nm hn
 have c2:=cell_of h.blk 2 _ rfl
 have c3:=cell_of h.blk 3 _ rfl
 have c4:=cell_of h.blk 4 _ rfl
 have f3:=free_of h.blk 3
 have f4:=free_of h.blk 4
 have hlt:=lt_of_block h.blk
 have lb0:=lt_of_cell h0
 have hne:b0≠d:=fun q=>by have:=h.r1;rw [←q,z0]at this;omega
 obtain ⟨a,cap,hpv,-,-⟩:=h.pend.value
 clear h z0 hes hpv
 go_enter Tryz.func159,Tryz.ntmps159
 go_wp2
 go_region_with (first|(go_at_call 91;refine (HM.out _ ?_).mono ?_;(first|exact Turned.refl _ _|exact (Turned.refl _ _).draw|exact ((Turned.refl _ _).draw).draw);rintro e w2 ⟨rfl,rfl⟩))
 all_goals go_wp2
 all_goals go_end0
 all_goals
  have k:=HF.out w _ (Turned.refl _ _) rfl
  rw [World.setCell_alloc_past (w:=w) _ d 3 _ hlt,World.setCell_alloc_past _ d 4 _ (by rw [setCell_size];exact hlt)]at k
  first|exact ⟨rfl,k⟩|exact ⟨rfl,k.draw⟩|exact ⟨rfl,k.draw.draw⟩
theorem FsC.zero {w:World} {rl:Nat→Nat} {d ms mf n:Nat} {pv:Value} {F:Nat→Nat} {D:Dk} (h:FsC w rl d ms mf pv F D n) {b:Nat} (hb:w.heap.size≤b):rl b=0:=by
 by_cases q:rl b=0
 ·exact q
 ·have:=h.bnd b q;omega
theorem one_box {w:World} (o:Obj):Turned (fun _=>False) w (w.alloc o)∧(w.alloc o).heap[w.heap.size]? = some o:=⟨Turned.alloc _ _ _,Go.Mine.heap_alloc_new _ _⟩
theorem fsync_any {w:World} {rl:Nat→Nat} {d ms mf:Nat} {pv:Value} {F:Nat→Nat} {D:Dk} (h:FsAt w rl d ms mf pv F D) (hok:D.Ok) (name:ByteArray) :
  Calls Tryz.prog 155 #[pt d,.string name] w fun e w'=>e = .returned (.int .i64 ((D.sync name).2:Nat))∧FsPost w rl d (D.sync name).1 w':=by
 have hfi:=ffind_any h name
 cases hf:D.file name with
 |error k=>
  have HK:Hid (k≠0):=file_err hf
  have HR:Hid (D.sync name=(D,k)):=hidS (by simp [Dk.sync,hf])
  have hk0:((k:Int) != 0)=true:=by have:=HK.out;simp;omega
  have HP:Hid (FsPost w rl d D (w.alloc (.cells #[.pointer none] 153))):=FsAt.post (h.turned (Turned.alloc (fun _=>False) w _) fun _ _ q=>q) (Turned.alloc _ _ _)
  rw [hf]at hfi
  replace hfi:Calls Tryz.prog 88 #[pt d,.string name] w fun e w'=>e = .returned (.tuple #[.pointer none,.int .i64 (k:Nat)])∧w=w':=hfi
  clear h hf hok
  rw [HR.out]
  go_enter Tryz.func155,Tryz.ntmps155
  go_wp2_with (go_at_call 88;(with_reducible refine hfi.mono ?_);rintro e w' ⟨rfl,rfl⟩)
  go_ret
  exact ⟨rfl,HP.out⟩
 |ok k=>
  obtain ⟨x,e1,e2,e3⟩:=h.live hf
  have HR:Hid (D.sync name=D.then fun d=>d.setF k ⟨(d.at k).bytes,(d.at k).bytes.size⟩):=hidS (by simp [Dk.sync,hf])
  obtain ⟨T0,x0⟩:=one_box (w:=w) (.cells #[pt (F k)] 153)
  have h' : FsAt (w.alloc (.cells #[pt (F k)] 153)) rl d ms mf pv F D:=h.turned T0 fun _ _ q=>q
  have z0:=h.zero (Nat.le_refl w.heap.size)
  have hst:Calls Tryz.prog 95 #[pt d,.func (.func 235) #[] #[pt w.heap.size]] (w.alloc (.cells #[pt (F k)] 153)) fun e w'=>e = .returned (.int .i64 ((D.sync name).2:Nat))∧FsPost w rl d (D.sync name).1 w':=by
   rw [HR.out]
   refine then_of T0 (fun h1=>FsAt.dies h' h1 _) fun h1=>?_
   refine step_goes235 h' h1 hok.fall _ fun w1 q1 q2 q3=>?_
   have y0:=cell_of (boxed x0 q2 fun q=>by rw [q,h.r1]at z0;omega) 0 _ rfl
   have hx:Dk.at { D with falls:=D.falls - 1 } k=x:=e2
   rw [hx]
   exact (fsync1_any q1 e1 ((e3.turned T0 fun _ _ q=>q).turned q2 fun b hb q=>by rw [q,h.r1]at hb;omega) _ y0).mono fun e w' ⟨a1,a2⟩=>⟨a1,a2.after (FsAt.own h' q2)⟩
  rw [hf]at hfi
  replace hfi:Calls Tryz.prog 88 #[pt d,.string name] w fun e w'=>e = .returned (.tuple #[pt (F k),.int .i64 0])∧w=w':=hfi
  generalize D.sync name=R at *
  clear h h' hf x0 T0 hok z0 HR e1 e2 e3
  go_enter Tryz.func155,Tryz.ntmps155
  go_wp2_with (first|(go_at_call 88;(with_reducible refine hfi.mono ?_);rintro e w' ⟨rfl,rfl⟩)|(go_at_call 95;(with_reducible refine hst.mono ?_);rintro e w' ⟨rfl,q⟩;replace q:Hid _:=hidS q))
  go_ret
  exact ⟨rfl,q.out⟩
theorem file_emp {D:Dk} (hok:D.Ok):D.file emp = .error (if D.off then 8 else 6):=by
 unfold Dk.file
 cases D.off with
 |true=>rfl
 |false=>
  have:findN D.seen emp=none:=findN_none.2 fun q=>by
   obtain ⟨x,hx,e⟩:=List.mem_map.1 q
   exact hok.seenOk.ne x hx e
  simp [this]
theorem fsyncNames_any {w:World} {rl:Nat→Nat} {d ms mf:Nat} {pv:Value} {F:Nat→Nat} {D:Dk} (h:FsAt w rl d ms mf pv F D) (hok:D.Ok) :
  Calls Tryz.prog 74 #[pt d] w fun e w'=>e = .returned (.int .i64 (D.syncNames.2:Nat))∧FsPost w rl d D.syncNames.1 w':=by
 obtain ⟨T0,x0⟩:=one_box (w:=w) (.cells #[pt d] 33)
 have h' : FsAt (w.alloc (.cells #[pt d] 33)) rl d ms mf pv F D:=h.turned T0 fun _ _ q=>q
 have hfi:=ffind_any h' emp
 rw [file_emp hok]at hfi
 cases ho:D.off with
 |true=>
  have HR:Hid (D.syncNames=(D,8)):=hidS (by simp [Dk.syncNames,ho])
  have HP:Hid (FsPost w rl d D (w.alloc (.cells #[pt d] 33))):=FsAt.post h' (Turned.alloc _ _ _)
  rw [ho]at hfi
  replace hfi:Calls Tryz.prog 88 #[pt d,.string ⟨#[]⟩] (w.alloc (.cells #[pt d] 33)) fun e w'=>e = .returned (.tuple #[.pointer none,.int .i64 8])∧w.alloc (.cells #[pt d] 33)=w':=hfi
  clear h h' ho hok T0 x0
  rw [HR.out]
  go_enter Tryz.func74,Tryz.ntmps74
  go_wp2_with (go_at_call 88;(with_reducible refine hfi.mono ?_);rintro e w' ⟨rfl,rfl⟩)
  go_ret
  exact ⟨rfl,HP.out⟩
 |false=>
  have HR:Hid (D.syncNames=D.then fun d=>{ d with safe:=d.seen,pend:=[] }):=hidS (by simp [Dk.syncNames,ho])
  have z0:=h.zero (Nat.le_refl w.heap.size)
  have hst:Calls Tryz.prog 95 #[pt d,.func (.func 159) #[] #[pt w.heap.size]] (w.alloc (.cells #[pt d] 33)) fun e w'=>e = .returned (.int .i64 (D.syncNames.2:Nat))∧FsPost w rl d D.syncNames.1 w':=by
   rw [HR.out]
   refine then_of T0 (fun h1=>FsAt.dies h' h1 _) fun h1=>?_
   refine step_goes159 h' h1 hok.fall _ fun w1 q1 q2 q3=>?_
   have y0:=cell_of (boxed x0 q2 fun q=>by rw [q,h.r1]at z0;omega) 0 _ rfl
   exact (fsyncN1_any q1 _ z0 y0).mono fun e w' ⟨a1,a2⟩=>⟨a1,a2.after (FsAt.own h' q2)⟩
  rw [ho]at hfi
  replace hfi:Calls Tryz.prog 88 #[pt d,.string ⟨#[]⟩] (w.alloc (.cells #[pt d] 33)) fun e w'=>e = .returned (.tuple #[.pointer none,.int .i64 6])∧w.alloc (.cells #[pt d] 33)=w':=hfi
  generalize D.syncNames=R at *
  clear h h' ho x0 T0 hok z0 HR
  go_enter Tryz.func74,Tryz.ntmps74
  go_wp2_with (first|(go_at_call 88;(with_reducible refine hfi.mono ?_);rintro e w' ⟨rfl,rfl⟩)|(go_at_call 95;(with_reducible refine hst.mono ?_);rintro e w' ⟨rfl,q⟩;replace q:Hid _:=hidS q))
  go_ret
  exact ⟨rfl,q.out⟩
theorem three_boxes {w:World} (o1 o2 o3:Obj):Turned (fun _=>False) w (((w.alloc o1).alloc o2).alloc o3)∧(((w.alloc o1).alloc o2).alloc o3).heap[w.heap.size]? = some o1∧(((w.alloc o1).alloc o2).alloc o3).heap[w.heap.size+1]? = some o2∧(((w.alloc o1).alloc o2).alloc o3).heap[w.heap.size+1+1]? = some o3:=by
 obtain ⟨h1,h2,h3⟩:=two_boxes (w:=w) o1 o2
 refine ⟨h1.new _,Go.Mine.heap_alloc_old h2,Go.Mine.heap_alloc_old h3,?_⟩
 have:=Go.Mine.heap_alloc_new ((w.alloc o1).alloc o2) o3
 simpa using this
theorem frename_any {w:World} {rl:Nat→Nat} {d ms mf:Nat} {pv:Value} {F:Nat→Nat} {D:Dk} (h:FsAt w rl d ms mf pv F D) (hok:D.Ok) (hp:D.pend.length≤1000000000) (a b:ByteArray) :
  Calls Tryz.prog 227 #[pt d,.string a,.string b] w fun e w'=>e = .returned (.int .i64 ((D.rename a b).2:Nat))∧FsPost w rl d (D.rename a b).1 w':=by
 obtain ⟨T0,x0,x1,x2⟩:=three_boxes (w:=w) (.cells #[pt d] 33) (.cells #[.string a] 9) (.cells #[.string b] 9)
 generalize hW:((w.alloc (.cells #[pt d] 33)).alloc (.cells #[.string a] 9)).alloc (.cells #[.string b] 9)=W0 at T0 x0 x1 x2
 have h' : FsAt W0 rl d ms mf pv F D:=h.turned T0 fun _ _ q=>q
 have hz:W0.heap.size=w.heap.size+1+1+1:=by rw [←hW];simp
 have hfi:=ffind_any h' a
 cases hf:D.file a with
 |error k=>
  have HK:Hid (k≠0):=file_err hf
  have HR:Hid (D.rename a b=(D,k)):=hidS (by simp [Dk.rename,hf])
  have hk0:((k:Int) != 0)=true:=by have:=HK.out;simp;omega
  have HP:Hid (FsPost w rl d D (W0.alloc (.cells #[.pointer none] 153))):=FsAt.post (h.turned (T0.new _) fun _ _ q=>q) ((T0.new _).mono fun _ _ q=>q.elim)
  rw [hf]at hfi
  replace hfi:Calls Tryz.prog 88 #[pt d,.string a] W0 fun e w'=>e = .returned (.tuple #[.pointer none,.int .i64 (k:Nat)])∧W0=w':=hfi
  subst hW
  clear h h' hf x0 x1 x2 T0 hok hz
  rw [HR.out]
  go_enter Tryz.func227,Tryz.ntmps227
  go_wp2_with (go_at_call 88;(with_reducible refine hfi.mono ?_);rintro e w' ⟨rfl,rfl⟩)
  go_ret
  exact ⟨rfl,HP.out⟩
 |ok k=>
  obtain ⟨x,e1,e2,e3⟩:=h.live hf
  have hne:a≠emp:=hok.seenOk.ne _ (Dk.file_live hf)
  have T1:Turned (fun _=>False) w (W0.alloc (.cells #[pt (F k)] 153)):=T0.new _
  have hnm:=fnamed_any b (W0.alloc (.cells #[pt (F k)] 153))
  have y0:=Go.Mine.heap_alloc_old (o:=.cells #[pt (F k)] 153) x0
  have y1:=Go.Mine.heap_alloc_old (o:=.cells #[pt (F k)] 153) x1
  have y2:=Go.Mine.heap_alloc_old (o:=.cells #[pt (F k)] 153) x2
  have y3:(W0.alloc (.cells #[pt (F k)] 153)).heap[w.heap.size+1+1+1]? = some (.cells #[pt (F k)] 153):=by have:=Go.Mine.heap_alloc_new W0 (.cells #[pt (F k)] 153);rwa [hz]at this
  rw [hf]at hfi
  replace hfi:Calls Tryz.prog 88 #[pt d,.string a] W0 fun e w'=>e = .returned (.tuple #[pt (F k),.int .i64 0])∧W0=w':=hfi
  cases hg:goodName b with
  |false=>
   have HR:Hid (D.rename a b=(D,1)):=hidS (by simp [Dk.rename,hf,hg])
   have HP:Hid (∀ w',Turned (fun _=>False) (W0.alloc (.cells #[pt (F k)] 153)) w'→FsPost w rl d D w'):=hidS fun w' ht=>FsAt.post (h.turned (T1.trans ht fun _ _ q=>q) fun _ _ q=>q) ((T1.trans ht fun _ _ q=>q).mono fun _ _ q=>q.elim)
   have cz:=cell_of y2 0 _ rfl
   rw [hg]at hnm
   subst hW
   clear h h' hf x0 x1 x2 T0 T1 hok hz e1 e2 e3 hne y0 y1 y2 y3 hg
   rw [HR.out]
   go_enter Tryz.func227,Tryz.ntmps227
   go_wp2_with (first|(go_at_call 88;(with_reducible refine hfi.mono ?_);rintro e w' ⟨rfl,rfl⟩)|(go_at_call 94;(refine hnm.mono ?_);rintro e w2 ⟨rfl,q⟩;replace q:Hid _:=hidS q))
   go_ret
   exact ⟨rfl,HP.out _ q.out⟩
  |true=>
   have hbe:b≠emp:=goodName_ne hg
   have HR:Hid (D.rename a b=D.then fun d=>if a=b then d else d.change ⟨a,b,k⟩):=hidS (by simp [Dk.rename,hf,hg])
   have hst:Hid (∀ W2,Turned (fun _=>False) (W0.alloc (.cells #[pt (F k)] 153)) W2→W2.cell? ⟨w.heap.size,0,none⟩=some (pt d)∧Calls Tryz.prog 95 #[pt d,.func (.func 303) #[] #[pt (w.heap.size+1),pt (w.heap.size+1+1),pt w.heap.size,pt (w.heap.size+1+1+1)]] W2 fun e w'=>e = .returned (.int .i64 ((D.rename a b).2:Nat))∧FsPost w rl d (D.rename a b).1 w'):=hidS fun W2 ht=>by
    have T2:=T1.trans ht fun _ _ q=>q
    have h2:FsAt W2 rl d ms mf pv F D:=h.turned T2 fun _ _ q=>q
    refine ⟨cell_of (boxed y0 ht id) 0 _ rfl,?_⟩
    rw [HR.out]
    refine then_of T2 (fun h1=>FsAt.dies h2 h1 _) fun h1=>?_
    refine step_goes303 h2 h1 hok.fall _ _ _ _ fun w1 q1 q2 q3=>?_
    have hd:∀ j,w.heap.size≤j→¬ j=d:=fun j hj q=>by have:=h.zero hj;rw [q,h.r1]at this;omega
    have v0:=cell_of (boxed (boxed y0 ht id) q2 (hd _ (by omega))) 0 _ rfl
    have v1:=cell_of (boxed (boxed y1 ht id) q2 (hd _ (by omega))) 0 _ rfl
    have v2:=cell_of (boxed (boxed y2 ht id) q2 (hd _ (by omega))) 0 _ rfl
    have v3:=cell_of (boxed (boxed y3 ht id) q2 (hd _ (by omega))) 0 _ rfl
    exact (frename1_any q1 (dk_fell hok) hp a b hne hbe e1 ((e3.turned T2 fun _ _ q=>q).turned q2 fun b hb q=>by rw [q,h.r1]at hb;omega) _ _ _ _ v1 v2 v0 v3).mono fun e w' ⟨a1,a2⟩=>⟨a1,a2.after (FsAt.own h2 q2)⟩
   have cz:=cell_of y2 0 _ rfl
   rw [hg]at hnm
   generalize D.rename a b=R at *
   subst hW
   clear h h' hf x0 x1 x2 T0 T1 hok hz e1 e2 e3 hne y0 y1 y2 y3 hg HR hbe
   go_enter Tryz.func227,Tryz.ntmps227
   go_wp2_with (first|(go_at_call 88;(with_reducible refine hfi.mono ?_);rintro e w' ⟨rfl,rfl⟩)|(go_at_call 94;(refine hnm.mono ?_);rintro e w2 ⟨rfl,q⟩;obtain ⟨q1,q2⟩:=hst.out w2 q;replace q2:Hid _:=hidS q2)|(go_at_call 95;(refine q2.out.mono ?_);rintro e w' ⟨rfl,q3⟩;replace q3:Hid _:=hidS q3))
   go_ret
   exact ⟨rfl,q3.out⟩
theorem emp_size {s:ByteArray}:s=emp↔s.size=0:=by
 constructor
 ·rintro rfl;rfl
 ·intro h
  apply ByteArray.ext
  apply Array.toList_inj.1
  have:s.data.toList.length=0:=by rw [bsize];exact h
  rw [List.length_eq_zero_iff.1 this]
  rfl
set_option maxHeartbeats 1000000 in
theorem fappend_any {w:World} {rl:Nat→Nat} {d ms mf:Nat} {pv:Value} {F:Nat→Nat} {D:Dk} (h:FsAt w rl d ms mf pv F D) (hok:D.Ok) (name text:ByteArray) (htx:text.size≤1099511627776) :
  Calls Tryz.prog 34 #[pt d,.string name,.string text] w fun e w'=>e = .returned (.int .i64 ((D.append name text).2:Nat))∧FsPost w rl d (D.append name text).1 w':=by
 obtain ⟨T0,x0⟩:=one_box (w:=w) (.cells #[.string text] 9)
 generalize hW:w.alloc (.cells #[.string text] 9)=W0 at T0 x0
 have hz:W0.heap.size=w.heap.size+1:=by rw [←hW];simp
 have h' : FsAt W0 rl d ms mf pv F D:=h.turned T0 fun _ _ q=>q
 have hfi:=ffind_any h' name
 cases hf:D.file name with
 |error k=>
  have HK:Hid (k≠0):=file_err hf
  have HR:Hid (D.append name text=(D,k)):=hidS (by simp [Dk.append,hf])
  have hk0:((k:Int) != 0)=true:=by have:=HK.out;simp;omega
  have HP:Hid (FsPost w rl d D (W0.alloc (.cells #[.pointer none] 153))):=FsAt.post (h.turned (T0.new _) fun _ _ q=>q) ((T0.new _).mono fun _ _ q=>q.elim)
  rw [hf]at hfi
  replace hfi:Calls Tryz.prog 88 #[pt d,.string name] W0 fun e w'=>e = .returned (.tuple #[.pointer none,.int .i64 (k:Nat)])∧W0=w':=hfi
  subst hW
  clear h h' hf hok x0 T0 hz
  rw [HR.out]
  go_enter Tryz.func34,Tryz.ntmps34
  go_wp2_with (go_at_call 88;(with_reducible refine hfi.mono ?_);rintro e w' ⟨rfl,rfl⟩)
  go_ret
  exact ⟨rfl,HP.out⟩
 |ok k=>
  obtain ⟨x,e1,e2,e3⟩:=h.live hf
  rw [hf]at hfi
  replace hfi:Calls Tryz.prog 88 #[pt d,.string name] W0 fun e w'=>e = .returned (.tuple #[pt (F k),.int .i64 0])∧W0=w':=hfi
  have T1:Turned (fun _=>False) w (W0.alloc (.cells #[pt (F k)] 153)):=T0.new _
  have y0:=Go.Mine.heap_alloc_old (o:=.cells #[pt (F k)] 153) x0
  have y1:(W0.alloc (.cells #[pt (F k)] 153)).heap[w.heap.size+1]? = some (.cells #[pt (F k)] 153):=by have:=Go.Mine.heap_alloc_new W0 (.cells #[pt (F k)] 153);rwa [hz]at this
  have hsm:=hok.small x (List.mem_of_getElem? e1)
  have hq:=hok.quota
  have hus:=used_le (Dk.file_live hf)
  rw [e2]at hus
  have husm:=used_small hok
  have HUS:Hid (∀ W2,Turned (fun _=>False) (W0.alloc (.cells #[pt (F k)] 153)) W2→Calls Tryz.prog 35 #[pt d] W2 fun e w'=>e = .returned (.int .i64 (D.used:Nat))∧Turned (fun _=>False) (W0.alloc (.cells #[pt (F k)] 153)) w'):=hidS fun W2 ht=>
   (fused_any (h.turned (T1.trans ht fun _ _ q=>q) fun _ _ q=>q) hok).mono fun e w' ⟨q1,q2⟩=>⟨q1,ht.trans q2 fun _ _ q=>q⟩
  have KS:Hid (∀ W2,Turned (fun _=>False) (W0.alloc (.cells #[pt (F k)] 153)) W2→W2.cell? ⟨w.heap.size,0,none⟩=some (.string text)∧W2.cell? ⟨d,0,none⟩=some (.int .i64 (D.quota:Nat))∧FsPost w rl d D W2∧d<W2.heap.size):=hidS fun W2 ht=>by
   have T2:=T1.trans ht fun _ _ q=>q
   have h2:FsAt W2 rl d ms mf pv F D:=h.turned T2 fun _ _ q=>q
   exact ⟨cell_of (boxed y0 ht id) 0 _ rfl,cell_of h2.blk 0 _ rfl,FsAt.post h2 (T2.mono fun _ _ q=>q.elim),lt_of_block h2.blk⟩
  have HST:Hid (¬ (0<text.size∧D.quota<D.used+text.size)→∀ W2,Turned (fun _=>False) (W0.alloc (.cells #[pt (F k)] 153)) W2→Calls Tryz.prog 95 #[pt d,.func (.func 98) #[] #[pt (w.heap.size+1),pt w.heap.size]] W2 fun e w'=>e = .returned (.int .i64 ((D.append name text).2:Nat))∧FsPost w rl d (D.append name text).1 w'):=hidS fun hgo W2 ht=>by
   have HR:D.append name text=D.then fun d=>d.setF k ⟨(d.at k).bytes ++ text,(d.at k).safe⟩:=by unfold Dk.append;rw [hf];simp only [];rw [if_neg hgo]
   have T2:=T1.trans ht fun _ _ q=>q
   have h2:FsAt W2 rl d ms mf pv F D:=h.turned T2 fun _ _ q=>q
   rw [HR]
   refine then_of T2 (fun h1=>FsAt.dies h2 h1 _) fun h1=>?_
   refine step_goes98 h2 h1 hok.fall _ _ fun w1 q1 q2 q3=>?_
   have hd:∀ j,w.heap.size≤j→¬ j=d:=fun j hj q=>by have:=h.zero hj;rw [q,h.r1]at this;omega
   have v0:=cell_of (boxed (boxed y1 ht id) q2 (hd _ (by omega))) 0 _ rfl
   have v1:=cell_of (boxed (boxed y0 ht id) q2 (hd _ (by omega))) 0 _ rfl
   have hx:Dk.at { D with falls:=D.falls - 1 } k=x:=e2
   rw [hx]
   have hl:x.bytes.size+text.size≤1000000000:=by
    by_cases q:0<text.size
    ·have : ¬ D.quota < D.used + text.size := fun z => hgo ⟨q, z⟩
     omega
    ·omega
   exact (fappend1_any q1 e1 ((e3.turned T2 fun _ _ q=>q).turned q2 fun b hb q=>by rw [q,h.r1]at hb;omega) text hl _ _ (h.zero (by omega)) (h.zero (by omega)) v0 v1).mono fun e w' ⟨a1,a2⟩=>⟨a1,a2.after (FsAt.own h2 q2)⟩
  by_cases hem:text=emp
  ·have hb : (text.toList == []) = true := by rw [hem, ByteArray.toList_eq]; rfl
   have hst1:=HST.out (fun q=>by have:=emp_size.1 hem;omega) _ (Turned.refl _ _)
   have hst2:=HST.out (fun q=>by have:=emp_size.1 hem;omega) _ (Turned.drew _ _)
   generalize D.append name text=R at *
   subst hW
   clear h h' hf hok x0 T0 hz T1 y0 y1 e1 e2 e3 hem hsm hq hus husm HUS KS HST
   go_enter Tryz.func34,Tryz.ntmps34
   go_wp2_with (go_at_call 88;(with_reducible refine hfi.mono ?_);rintro e w' ⟨rfl,rfl⟩)
   go_region
   all_goals go_wp2_with (first|(go_at_call 95;(with_reducible refine hst1.mono ?_);rintro e w' ⟨rfl,z⟩;replace z:Hid _:=hidS z)|(go_at_call 95;(with_reducible refine hst2.mono ?_);rintro e w' ⟨rfl,z⟩;replace z:Hid _:=hidS z))
   all_goals go_ret
   all_goals exact ⟨rfl,z.out⟩
  ·have hb : (text.toList == []) = false := by
    have:text.data.toList.length≠0:=by rw [bsize];exact fun q=>hem (emp_size.2 q)
    rw [ByteArray.toList_eq]
    cases q:text.data.toList with
    |nil=>rw [q]at this;simp at this
    |cons a l=>rfl
   have h0:0<text.size:=by
    have:text.size≠0:=fun q=>hem (emp_size.2 q)
    omega
   have hw:wrap64 ((D.used:Int)+(text.size:Int))=((D.used+text.size:Nat):Int):=by simp only [wrap64];omega
   have hw2:IntKind.i64.wrap ((D.used:Int)+(text.size:Int))=((D.used+text.size:Nat):Int):=by rw [IntKind.wrap_i64];omega
   by_cases hfull:D.quota<D.used+text.size
   ·have HR : Hid (D.append name text = (D, 7)) := hidS (by unfold Dk.append; rw [hf]; simp only []; rw [if_pos ⟨h0, hfull⟩])
    have hd1:decide ((D.quota:Int)<((D.used+text.size:Nat):Int))=true:=by simp only [decide_eq_true_eq];omega
    have hd2:decide (D.quota<D.used+text.size)=true:=decide_eq_true hfull
    rw [HR.out]
    generalize D.used=U at *
    generalize D.quota=Q at *
    generalize U+text.size=US at *
    have KC:Hid (∀ W2,Turned (fun _=>False) (W0.alloc (.cells #[pt (F k)] 153)) W2→W2.cell? ⟨w.heap.size,0,none⟩=some (.string text)∧W2.cell? ⟨d,0,none⟩=some (.int .i64 (Q:Nat))):=hidS fun W2 ht=>⟨(KS.out W2 ht).1,(KS.out W2 ht).2.1⟩
    subst hW
    clear h h' hf hok x0 T0 hz T1 y0 y1 e1 e2 e3 hem hsm hq hus husm HST hfull h0
    go_enter Tryz.func34,Tryz.ntmps34
    go_wp2_with (go_at_call 88;(with_reducible refine hfi.mono ?_);rintro e w' ⟨rfl,rfl⟩)
    generalize (w.alloc (.cells #[.string text] 9)).alloc (.cells #[pt (F k)] 153)=W1 at *
    have V0:Turned (fun _=>False) W1 W1.drew:=Turned.drew _ _
    go_region_held3 (fun W=>W.cell? ⟨w.heap.size,0,none⟩=some (.string text)∧W.cell? ⟨d,0,none⟩=some (.int .i64 (Q:Nat)))
     (first|(exact KC.out _ (by assumption))|go_keep)
     (first|(go_at_call 35;(with_reducible refine (HUS.out _ V0).mono ?_);rintro e w2 ⟨rfl,V1⟩))
    go_wp2
    go_ret
    exact ⟨rfl,(KS.out _ V1).2.2.1⟩
   ·have hgo : ¬ (0 < text.size ∧ D.quota < D.used + text.size) := fun q => hfull q.2
    have hd1:decide ((D.quota:Int)<((D.used+text.size:Nat):Int))=false:=by simp only [decide_eq_false_iff_not];omega
    have hd2:decide (D.quota<D.used+text.size)=false:=decide_eq_false hfull
    have HST2:Hid _:=hidS (HST.out hgo)
    generalize D.append name text=R at *
    generalize D.used=U at *
    generalize D.quota=Q at *
    generalize U+text.size=US at *
    have KC:Hid (∀ W2,Turned (fun _=>False) (W0.alloc (.cells #[pt (F k)] 153)) W2→W2.cell? ⟨w.heap.size,0,none⟩=some (.string text)∧W2.cell? ⟨d,0,none⟩=some (.int .i64 (Q:Nat))):=hidS fun W2 ht=>⟨(KS.out W2 ht).1,(KS.out W2 ht).2.1⟩
    subst hW
    clear h h' hf hok x0 T0 hz T1 y0 y1 e1 e2 e3 hem hsm hq hus husm hfull h0 HST hgo
    go_enter Tryz.func34,Tryz.ntmps34
    go_wp2_with (go_at_call 88;(with_reducible refine hfi.mono ?_);rintro e w' ⟨rfl,rfl⟩)
    generalize (w.alloc (.cells #[.string text] 9)).alloc (.cells #[pt (F k)] 153)=W1 at *
    have V0:Turned (fun _=>False) W1 W1.drew:=Turned.drew _ _
    go_region_held3 (fun W=>W.cell? ⟨w.heap.size,0,none⟩=some (.string text)∧W.cell? ⟨d,0,none⟩=some (.int .i64 (Q:Nat)))
     (first|(exact KC.out _ (by assumption))|go_keep)
     (first|(go_at_call 35;(with_reducible refine (HUS.out _ V0).mono ?_);rintro e w2 ⟨rfl,V1⟩))
    have hst:=HST2.out _ V1
    go_wp2_with (go_at_call 95;(with_reducible refine hst.mono ?_);rintro e w' ⟨rfl,z⟩;replace z:Hid _:=hidS z)
    go_ret
    exact ⟨rfl,z.out⟩
theorem create_step {w W2:World} {rl:Nat→Nat} {d ms mf:Nat} {pv:Value} {F:Nat→Nat} {D:Dk} (h:FsAt w rl d ms mf pv F D) (hok:D.Ok) (hp:D.pend.length≤1000000000) (hfl:D.files.length≤1000000000) (name:ByteArray) (hne:name≠emp)
  (T2:Turned (fun _=>False) w W2) (B0 B1:Nat) (l0:w.heap.size≤B0) (l1:w.heap.size≤B1) (x0:W2.heap[B0]? = some (.cells #[pt d] 33)) (x1:W2.heap[B1]? = some (.cells #[.string name] 9)) :
  Calls Tryz.prog 95 #[pt d,.func (.func 96) #[] #[pt B0,pt B1]] W2 fun e w'=>e = .returned (.int .i64 ((D.then fun d=>Dk.change { d with files:=d.files ++ [⟨emp,0⟩] } ⟨emp,name,d.files.length⟩).2:Nat))∧FsPost w rl d (D.then fun d=>Dk.change { d with files:=d.files ++ [⟨emp,0⟩] } ⟨emp,name,d.files.length⟩).1 w':=by
 have h2:FsAt W2 rl d ms mf pv F D:=h.turned T2 fun _ _ q=>q
 refine then_of T2 (fun h1=>FsAt.dies h2 h1 _) fun h1=>?_
 refine step_goes96 h2 h1 hok.fall _ _ fun w1 q1 q2 q3=>?_
 have hd:∀ j,w.heap.size≤j→¬ j=d:=fun j hj q=>by have:=h.zero hj;rw [q,h.r1]at this;omega
 have v0:=cell_of (boxed x0 q2 (hd _ l0)) 0 _ rfl
 have v1:=cell_of (boxed x1 q2 (hd _ l1)) 0 _ rfl
 exact (fcreate1_any q1 (dk_fell hok) hp hfl name _ _ (h.zero l0) (h.zero l1) v0 v1 hne).mono fun e w' ⟨a1,a2⟩=>⟨a1,a2.after (FsAt.own h2 q2)⟩
theorem fcreate_any {w:World} {rl:Nat→Nat} {d ms mf:Nat} {pv:Value} {F:Nat→Nat} {D:Dk} (h:FsAt w rl d ms mf pv F D) (hok:D.Ok) (hp:D.pend.length≤1000000000) (hfl:D.files.length≤1000000000) (name:ByteArray) :
  Calls Tryz.prog 33 #[pt d,.string name] w fun e w'=>e = .returned (.int .i64 ((D.create name).2:Nat))∧FsPost w rl d (D.create name).1 w':=by
 obtain ⟨T0,x0,x1⟩:=two_boxes (w:=w) (.cells #[pt d] 33) (.cells #[.string name] 9)
 generalize hW:(w.alloc (.cells #[pt d] 33)).alloc (.cells #[.string name] 9)=W0 at T0 x0 x1
 have h' : FsAt W0 rl d ms mf pv F D:=h.turned T0 fun _ _ q=>q
 have hfi:=ffind_any h' name
 have hnm:=fnamed_any name W0
 cases ho:D.off with
 |true=>
  have hf:D.file name = .error 8:=by simp [Dk.file,ho]
  have HR:Hid (D.create name=(D,8)):=hidS (by simp [Dk.create,ho])
  have HP:Hid (FsPost w rl d D W0):=FsAt.post h' (T0.mono fun _ _ q=>q.elim)
  rw [hf]at hfi
  replace hfi:Calls Tryz.prog 88 #[pt d,.string name] W0 fun e w'=>e = .returned (.tuple #[.pointer none,.int .i64 8])∧W0=w':=hfi
  subst hW
  clear h h' hf x0 x1 T0 hok ho hnm
  rw [HR.out]
  go_enter Tryz.func33,Tryz.ntmps33
  go_wp2_with (go_at_call 88;(with_reducible refine hfi.mono ?_);rintro e w' ⟨rfl,rfl⟩)
  go_ret
  exact ⟨rfl,HP.out⟩
 |false=>
  obtain ⟨pv2,k2,hfi2,hk2⟩:∃ (pv2:Value) (k2:Nat),(Calls Tryz.prog 88 #[pt d,.string name] W0 fun e w'=>e = .returned (.tuple #[pv2,.int .i64 (k2:Nat)])∧W0=w')∧((k2=6∧pv2 = .pointer none∧findN D.seen name=none)∨(∃ k,k2=0∧pv2=pt (F k)∧findN D.seen name=some k)):=by
   cases hn:findN D.seen name with
   |none=>
    have hf:D.file name = .error 6:=by simp [Dk.file,ho,hn]
    rw [hf]at hfi
    exact ⟨_,6,hfi,.inl ⟨rfl,rfl,rfl⟩⟩
   |some k=>
    have hf:D.file name = .ok k:=by simp [Dk.file,ho,hn]
    rw [hf]at hfi
    exact ⟨_,0,hfi,.inr ⟨k,rfl,rfl,rfl⟩⟩
  have b1:((k2:Int) == 1)=false:=by rcases hk2 with ⟨rfl,-⟩|⟨k,rfl,-⟩ <;> rfl
  have b8:((k2:Int) == 8)=false:=by rcases hk2 with ⟨rfl,-⟩|⟨k,rfl,-⟩ <;> rfl
  cases hg:goodName name with
  |false=>
   have HR:Hid (D.create name=(D,1)):=hidS (by simp [Dk.create,ho,hg])
   have HP:Hid (∀ w',Turned (fun _=>False) W0 w'→FsPost w rl d D w'):=hidS fun w' ht=>FsAt.post (h.turned (T0.trans ht fun _ _ q=>q) fun _ _ q=>q) ((T0.trans ht fun _ _ q=>q).mono fun _ _ q=>q.elim)
   rw [hg]at hnm
   subst hW
   clear h h' x0 x1 T0 hok ho hk2 hfi hg
   rw [HR.out]
   go_enter Tryz.func33,Tryz.ntmps33
   go_wp2_with (first|(go_at_call 88;(with_reducible refine hfi2.mono ?_);rintro e w' ⟨rfl,rfl⟩)|(go_at_call 94;(refine hnm.mono ?_);rintro e w2 ⟨rfl,q⟩;replace q:Hid _:=hidS q))
   go_ret
   exact ⟨rfl,HP.out _ q.out⟩
  |true=>
   have hne:name≠emp:=goodName_ne hg
   have hz:W0.heap.size=w.heap.size+1+1:=by rw [←hW];simp
   have X2:Hid (∀ W2,Turned (fun _=>False) W0 W2→W2.cell? ⟨w.heap.size,0,none⟩=some (pt d)∧W2.cell? ⟨d,2,none⟩=some (.map (some ms))∧(∀ ty,(Builtin.len_ #[145] ty #[.map (some ms)]).run Tryz.prog W2 = .ok (.int .i64 (D.seen.length:Nat)) W2)∧FsPost w rl d D W2∧d<W2.heap.size):=hidS fun W2 ht=>by
    have T2:=T0.trans ht fun _ _ q=>q
    have h2:FsAt W2 rl d ms mf pv F D:=h.turned T2 fun _ _ q=>q
    exact ⟨cell_of (boxed x0 ht id) 0 _ rfl,cell_of h2.blk 2 _ rfl,fun ty=>h2.seen.len Tryz.underlying145 ty,FsAt.post h2 (T2.mono fun _ _ q=>q.elim),lt_of_block h2.blk⟩
   rw [hg]at hnm
   by_cases hfull:findN D.seen name=none∧64≤D.seen.length
   ·have HR : Hid (D.create name = (D, 7)) := hidS (by simp [Dk.create, ho, hg, hfull])
    obtain rfl:k2=6:=by rcases hk2 with ⟨q,-⟩|⟨k,-,-,q⟩ <;> (first|exact q|(rw [hfull.1]at q;cases q))
    have hd1:decide ((64:Int)≤(D.seen.length:Int))=true:=by simp;omega
    have hd2:decide (64≤D.seen.length)=true:=by simp;omega
    generalize D.seen.length=N at *
    subst hW
    clear h h' x0 x1 T0 hok ho hk2 hfi hg hfull hz
    rw [HR.out]
    go_enter Tryz.func33,Tryz.ntmps33
    go_wp2_with (first|(go_at_call 88;(with_reducible refine hfi2.mono ?_);rintro e w' ⟨rfl,rfl⟩)|(go_at_call 94;(refine hnm.mono ?_);rintro e w2 ⟨rfl,q⟩;obtain ⟨q1,q2,q3,q4,q5⟩:=X2.out _ q;replace q4:Hid _:=hidS q4;clear q))
    go_ret
    exact ⟨rfl,q4.out⟩
   ·have HR : Hid (D.create name = D.then fun d => Dk.change { d with files := d.files ++ [⟨emp, 0⟩] } ⟨emp, name, d.files.length⟩) := hidS (by simp [Dk.create, ho, hg, hfull])
    have HST:Hid (∀ W2,Turned (fun _=>False) W0 W2→Calls Tryz.prog 95 #[pt d,.func (.func 96) #[] #[pt w.heap.size,pt (w.heap.size+1)]] W2 fun e w'=>e = .returned (.int .i64 ((D.create name).2:Nat))∧FsPost w rl d (D.create name).1 w'):=hidS fun W2 ht=>by
     rw [HR.out]
     exact create_step h hok hp hfl name hne (T0.trans ht fun _ _ q=>q) _ _ (Nat.le_refl _) (by omega) (boxed x0 ht id) (boxed x1 ht id)
    have hcond:((k2:Int) == 6)=false∨(((k2:Int) == 6)=true∧D.seen.length<64):=by
     rcases hk2 with ⟨rfl,-,q⟩|⟨k,rfl,-⟩
     ·right;exact ⟨rfl,by have:¬ 64≤D.seen.length:=fun z=>hfull ⟨q,z⟩;omega⟩
     ·left;rfl
    generalize D.create name=R at *
    generalize D.seen.length=N at *
    subst hW
    clear h h' x0 x1 T0 hok ho hk2 hfi hg hfull hz HR hne
    rcases hcond with b6|⟨b6,hN⟩
    ·go_enter Tryz.func33, Tryz.ntmps33
     go_wp2_with (first|(go_at_call 88;(with_reducible refine hfi2.mono ?_);rintro e w' ⟨rfl,rfl⟩)|(go_at_call 94;(refine hnm.mono ?_);rintro e w2 ⟨rfl,q⟩;obtain ⟨q1,q2,q3,q4,q5⟩:=X2.out _ q;have hst:=HST.out _ q;clear q q4)|(go_at_call 95;(refine hst.mono ?_);rintro e w' ⟨rfl,z⟩;replace z:Hid _:=hidS z))
     go_ret
     exact ⟨rfl,z.out⟩
    ·have hd1 : decide ((64 : Int) ≤ (N : Int)) = false := by simp; omega
     have hd2:decide (64≤N)=false:=by simp;omega
     clear hN
     go_enter Tryz.func33,Tryz.ntmps33
     go_wp2_with (first|(go_at_call 88;(with_reducible refine hfi2.mono ?_);rintro e w' ⟨rfl,rfl⟩)|(go_at_call 94;(refine hnm.mono ?_);rintro e w2 ⟨rfl,q⟩;obtain ⟨q1,q2,q3,q4,q5⟩:=X2.out _ q;have hst:=HST.out _ q;clear q q4)|(go_at_call 95;(refine hst.mono ?_);rintro e w' ⟨rfl,z⟩;replace z:Hid _:=hidS z))
     go_ret
     exact ⟨rfl,z.out⟩
end Go.Proofs.YtofcogekgcgjhaaGreatDoor
