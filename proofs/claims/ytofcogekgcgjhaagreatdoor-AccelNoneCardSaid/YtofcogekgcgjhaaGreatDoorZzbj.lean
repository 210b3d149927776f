/- Packed. -/
import Derived.Test.YtofcogekgcgjhaaGreatDoorZzbh
import Derived.Test.YtofcogekgcgjhaaGreatDoorZzbi
import Derived.Deep.RegionHeld3
set_option linter.unusedVariables false
set_option linter.unusedSimpArgs false
set_option maxRecDepth 100000
namespace Go.Proofs.YtofcogekgcgjhaaGreatDoor
open Go.RowKit Go.Mine Go.Mine.Ac
theorem fsRename {w:World} {S:Nat→Prop} {d:Nat} {D:Dk} (h:FsIs w S d D) (hok:D.Ok) (hp:D.pend.length≤1000000000) (x y:ByteArray) :
  Calls Tryz.prog 227 #[pt d,.string x,.string y] w fun e w'=>e = .returned (.int .i64 ((D.rename x y).2:Nat))∧FsTo w S d (D.rename x y).1 w':=by
 obtain ⟨rl,ms,mf,pv,F,h1,h2⟩:=h
 exact (frename_any h1 hok hp x y).mono fun e w' ⟨a,b⟩=>⟨a,FsTo.of b h2⟩
theorem fsRemove {w:World} {S:Nat→Prop} {d:Nat} {D:Dk} (h:FsIs w S d D) (hok:D.Ok) (hp:D.pend.length≤1000000000) (x:ByteArray) :
  Calls Tryz.prog 38 #[pt d,.string x] w fun e w'=>e = .returned (.int .i64 ((D.remove x).2:Nat))∧FsTo w S d (D.remove x).1 w':=by
 obtain ⟨rl,ms,mf,pv,F,h1,h2⟩:=h
 exact (fremove_any h1 hok hp x).mono fun e w' ⟨a,b⟩=>⟨a,FsTo.of b h2⟩
theorem fsNames {w:World} {S:Nat→Prop} {d:Nat} {D:Dk} (h:FsIs w S d D) (hok:D.Ok):Calls Tryz.prog 36 #[pt d] w (NamesPost w D):=by
 obtain ⟨rl,ms,mf,pv,F,h1,h2⟩:=h
 exact fnames_any h1 hok
theorem writeX_1 {D D1:Dk} {tmp text name:ByteArray} {k:Nat} (h:D.create tmp=(D1,k)) (hk:k≠0):writeX D tmp text name=(D1,k):=by
 unfold writeX
 rw [h]
 cases k with
 |zero=>exact absurd rfl hk
 |succ k=>rfl
theorem writeX_2 {D D1 D2:Dk} {tmp text name:ByteArray} {k:Nat} (h:D.create tmp=(D1,0)) (h2:D1.append tmp text=(D2,k)) (hk:k≠0):writeX D tmp text name=(D2,k):=by
 unfold writeX
 rw [h]
 simp only
 rw [h2]
 cases k with
 |zero=>exact absurd rfl hk
 |succ k=>rfl
theorem writeX_3 {D D1 D2 D3:Dk} {tmp text name:ByteArray} {k:Nat} (h:D.create tmp=(D1,0)) (h2:D1.append tmp text=(D2,0)) (h3:D2.sync tmp=(D3,k)) (hk:k≠0):writeX D tmp text name=(D3,k):=by
 unfold writeX
 rw [h]
 simp only
 rw [h2]
 simp only
 rw [h3]
 cases k with
 |zero=>exact absurd rfl hk
 |succ k=>rfl
theorem writeX_4 {D D1 D2 D3 D4:Dk} {tmp text name:ByteArray} {k:Nat} (h:D.create tmp=(D1,0)) (h2:D1.append tmp text=(D2,0)) (h3:D2.sync tmp=(D3,0)) (h4:D3.rename tmp name=(D4,k)):writeX D tmp text name=(D4,k):=by
 unfold writeX
 rw [h]
 simp only
 rw [h2]
 simp only
 rw [h3]
 simp only
 rw [h4]
theorem x223_any {w:World} {b0 b1 p d:Nat} {s1:ByteArray} {k:Nat} {Q:World→Prop} (x0:w.cell? ⟨b0,0,none⟩=some (pt p)) (x1:w.cell? ⟨b1,0,none⟩=some (.string s1)) (hp:w.cell? ⟨p,0,none⟩=some (pt d))
  (hc:∀ W,Turned (fun _=>False) w W→Calls Tryz.prog 33 #[pt d,.string s1] W fun e w'=>e = .returned (.int .i64 (k:Nat))∧Q w') (hq:∀ W,Q W→W.cell? ⟨b0,0,none⟩=some (pt p)∧W.cell? ⟨b1,0,none⟩=some (.string s1)∧W.cell? ⟨p,0,none⟩=some (pt d)) :
  Calls Tryz.prog 223 #[pt b0,pt b1] w fun e w'=>e = .returned (.int .i64 (k:Nat))∧Q w':=by
 have l0:=lt_of_cell x0
 have l1:=lt_of_cell x1
 have lp:=lt_of_cell hp
 have HC:Hid _:=hidS hc
 have HQ:Hid _:=hidS hq
 clear hc hq
 go_enter Tryz.func223,Tryz.ntmps223
 go_wp2
 go_region_held3 (fun W=>W.cell? ⟨b0,0,none⟩=some (pt p)∧W.cell? ⟨b1,0,none⟩=some (.string s1)∧W.cell? ⟨p,0,none⟩=some (pt d)) (first|(exact ⟨x0,x1,hp⟩)|(exact HQ.out _ q.out)|go_keep)
  (first|(go_at_call 33;(with_reducible refine (HC.out _ (Turned.drew _ _)).mono ?_);rintro e w' ⟨rfl,q⟩;replace q:Hid _:=hidS q))
 all_goals go_wp2
 all_goals go_ret
 all_goals exact ⟨rfl,q.out⟩
theorem x224_any {w:World} {b0 b1 b2 p d:Nat} {s1 s2:ByteArray} {k:Nat} {Q:World→Prop} (x0:w.cell? ⟨b0,0,none⟩=some (pt p)) (x1:w.cell? ⟨b1,0,none⟩=some (.string s1)) (x2:w.cell? ⟨b2,0,none⟩=some (.string s2)) (hp:w.cell? ⟨p,0,none⟩=some (pt d))
  (hc:∀ W,Turned (fun _=>False) w W→Calls Tryz.prog 34 #[pt d,.string s1,.string s2] W fun e w'=>e = .returned (.int .i64 (k:Nat))∧Q w') (hq:∀ W,Q W→W.cell? ⟨b0,0,none⟩=some (pt p)∧W.cell? ⟨b1,0,none⟩=some (.string s1)∧W.cell? ⟨b2,0,none⟩=some (.string s2)∧W.cell? ⟨p,0,none⟩=some (pt d)) :
  Calls Tryz.prog 224 #[pt b0,pt b1,pt b2] w fun e w'=>e = .returned (.int .i64 (k:Nat))∧Q w':=by
 have l0:=lt_of_cell x0
 have l1:=lt_of_cell x1
 have l2:=lt_of_cell x2
 have lp:=lt_of_cell hp
 have HC:Hid _:=hidS hc
 have HQ:Hid _:=hidS hq
 clear hc hq
 go_enter Tryz.func224,Tryz.ntmps224
 go_wp2
 go_region_held3 (fun W=>W.cell? ⟨b0,0,none⟩=some (pt p)∧W.cell? ⟨b1,0,none⟩=some (.string s1)∧W.cell? ⟨b2,0,none⟩=some (.string s2)∧W.cell? ⟨p,0,none⟩=some (pt d)) (first|(exact ⟨x0,x1,x2,hp⟩)|(exact HQ.out _ q.out)|go_keep)
  (first|(go_at_call 34;(with_reducible refine (HC.out _ (Turned.drew _ _)).mono ?_);rintro e w' ⟨rfl,q⟩;replace q:Hid _:=hidS q))
 all_goals go_wp2
 all_goals go_ret
 all_goals exact ⟨rfl,q.out⟩
theorem x225_any {w:World} {b0 b1 p d:Nat} {s1:ByteArray} {k:Nat} {Q:World→Prop} (x0:w.cell? ⟨b0,0,none⟩=some (pt p)) (x1:w.cell? ⟨b1,0,none⟩=some (.string s1)) (hp:w.cell? ⟨p,0,none⟩=some (pt d))
  (hc:∀ W,Turned (fun _=>False) w W→Calls Tryz.prog 155 #[pt d,.string s1] W fun e w'=>e = .returned (.int .i64 (k:Nat))∧Q w') (hq:∀ W,Q W→W.cell? ⟨b0,0,none⟩=some (pt p)∧W.cell? ⟨b1,0,none⟩=some (.string s1)∧W.cell? ⟨p,0,none⟩=some (pt d)) :
  Calls Tryz.prog 225 #[pt b0,pt b1] w fun e w'=>e = .returned (.int .i64 (k:Nat))∧Q w':=by
 have l0:=lt_of_cell x0
 have l1:=lt_of_cell x1
 have lp:=lt_of_cell hp
 have HC:Hid _:=hidS hc
 have HQ:Hid _:=hidS hq
 clear hc hq
 go_enter Tryz.func225,Tryz.ntmps225
 go_wp2
 go_region_held3 (fun W=>W.cell? ⟨b0,0,none⟩=some (pt p)∧W.cell? ⟨b1,0,none⟩=some (.string s1)∧W.cell? ⟨p,0,none⟩=some (pt d)) (first|(exact ⟨x0,x1,hp⟩)|(exact HQ.out _ q.out)|go_keep)
  (first|(go_at_call 155;(with_reducible refine (HC.out _ (Turned.drew _ _)).mono ?_);rintro e w' ⟨rfl,q⟩;replace q:Hid _:=hidS q))
 all_goals go_wp2
 all_goals go_ret
 all_goals exact ⟨rfl,q.out⟩
theorem x226_any {w:World} {b0 b1 b2 p d:Nat} {s1 s2:ByteArray} {k:Nat} {Q:World→Prop} (x0:w.cell? ⟨b0,0,none⟩=some (pt p)) (x1:w.cell? ⟨b1,0,none⟩=some (.string s1)) (x2:w.cell? ⟨b2,0,none⟩=some (.string s2)) (hp:w.cell? ⟨p,0,none⟩=some (pt d))
  (hc:∀ W,Turned (fun _=>False) w W→Calls Tryz.prog 227 #[pt d,.string s1,.string s2] W fun e w'=>e = .returned (.int .i64 (k:Nat))∧Q w') (hq:∀ W,Q W→W.cell? ⟨b0,0,none⟩=some (pt p)∧W.cell? ⟨b1,0,none⟩=some (.string s1)∧W.cell? ⟨b2,0,none⟩=some (.string s2)∧W.cell? ⟨p,0,none⟩=some (pt d)) :
  Calls Tryz.prog 226 #[pt b0,pt b1,pt b2] w fun e w'=>e = .returned (.int .i64 (k:Nat))∧Q w':=by
 have l0:=lt_of_cell x0
 have l1:=lt_of_cell x1
 have l2:=lt_of_cell x2
 have lp:=lt_of_cell hp
 have HC:Hid _:=hidS hc
 have HQ:Hid _:=hidS hq
 clear hc hq
 go_enter Tryz.func226,Tryz.ntmps226
 go_wp2
 go_region_held3 (fun W=>W.cell? ⟨b0,0,none⟩=some (pt p)∧W.cell? ⟨b1,0,none⟩=some (.string s1)∧W.cell? ⟨b2,0,none⟩=some (.string s2)∧W.cell? ⟨p,0,none⟩=some (pt d)) (first|(exact ⟨x0,x1,x2,hp⟩)|(exact HQ.out _ q.out)|go_keep)
  (first|(go_at_call 227;(with_reducible refine (HC.out _ (Turned.drew _ _)).mono ?_);rintro e w' ⟨rfl,q⟩;replace q:Hid _:=hidS q))
 all_goals go_wp2
 all_goals go_ret
 all_goals exact ⟨rfl,q.out⟩
theorem four_boxes {w:World} (o1 o2 o3 o4:Obj):Turned (fun _=>False) w ((((w.alloc o1).alloc o2).alloc o3).alloc o4)∧((((w.alloc o1).alloc o2).alloc o3).alloc o4).heap[w.heap.size]? = some o1∧((((w.alloc o1).alloc o2).alloc o3).alloc o4).heap[w.heap.size+1]? = some o2∧((((w.alloc o1).alloc o2).alloc o3).alloc o4).heap[w.heap.size+1+1]? = some o3∧((((w.alloc o1).alloc o2).alloc o3).alloc o4).heap[w.heap.size+1+1+1]? = some o4:=by
  obtain ⟨t,a,b,c⟩:=three_boxes (w:=w) o1 o2 o3
  have hz:(((w.alloc o1).alloc o2).alloc o3).heap.size=w.heap.size+1+1+1:=by simp
  refine ⟨t.new _,alloc_old o4 (lt_of_block a) |>.trans a,alloc_old o4 (lt_of_block b) |>.trans b,alloc_old o4 (lt_of_block c) |>.trans c,?_⟩
  rw [←hz]
  exact Go.Mine.heap_alloc_new _ _
def WxRel (VA:World) (S:Nat→Prop) (d:Nat) (D:Dk) (tmp text name:ByteArray) (g:Nat) (iv:Value) (wr:World):Prop:=
  ∃ D1 D2 D3 D4 k0 k1 k2 k3,D.create tmp=(D1,k0)∧D1.append tmp text=(D2,k1)∧D2.sync tmp=(D3,k2)∧D3.rename tmp name=(D4,k3) ∧
    ((g = 4 ∧ iv = .int .i64 0 ∧ FsTo VA S d D wr) ∨ (g = 3 ∧ iv = .int .i64 1 ∧ k0 = 0 ∧ FsTo VA S d D1 wr) ∨ (g = 2 ∧ iv = .int .i64 2 ∧ k0 = 0 ∧ k1 = 0 ∧ FsTo VA S d D2 wr) ∨ (g = 1 ∧ iv = .int .i64 3 ∧ k0 = 0 ∧ k1 = 0 ∧ k2 = 0 ∧ FsTo VA S d D3 wr) ∨
      (g=0∧iv = .int .i64 4∧k0=0∧k1=0∧k2=0∧k3=0∧FsTo VA S d D4 wr))
set_option maxHeartbeats 8000000 in
theorem xwrite_any {w:World} {S:Nat→Prop} {d p:Nat} {D:Dk} {lv gv:Value} (hD:FsIs w S d D) (hok:D.Ok) (hfew:Few D 900000000) (hp:w.heap[p]? = some (.cells #[pt d,lv,gv] 116)) (hpS:¬ S p) (hbd:∀ b,S b→b<w.heap.size) (tmp text name:ByteArray) (htx:text.size≤1099511627776) :
    Calls Tryz.prog 136 #[pt p,.string tmp,.string text,.string name] w fun e w'=>e = .returned (.int .i64 ((writeX D tmp text name).2:Nat))∧FsTo w S d (writeX D tmp text name).1 w':=by
  obtain ⟨R,hR⟩:∃ R,R=writeX D tmp text name:=⟨_,rfl⟩
  have HR:Hid (R=writeX D tmp text name):=hR
  rw [←hR]
  clear hR
  obtain ⟨V,hV⟩:∃ V,V=(((w.alloc (.cells #[pt p] 26)).alloc (.cells #[.string tmp] 9)).alloc (.cells #[.string text] 9)).alloc (.cells #[.string name] 9):=⟨_,rfl⟩
  obtain ⟨tV,b0,b1,b2,b3⟩:=four_boxes (w:=w) (.cells #[pt p] 26) (.cells #[.string tmp] 9) (.cells #[.string text] 9) (.cells #[.string name] 9)
  have zV:V.heap.size=w.heap.size+1+1+1+1:=by rw [hV];simp
  rw [←hV]at tV b0 b1 b2 b3
  obtain ⟨fs,hfs⟩:∃ fs,fs=Obj.cells #[.func (.func 223) #[] #[pt w.heap.size,pt (w.heap.size+1)],.func (.func 224) #[] #[pt w.heap.size,pt (w.heap.size+1),pt (w.heap.size+1+1)],.func (.func 225) #[] #[pt w.heap.size,pt (w.heap.size+1)],.func (.func 226) #[] #[pt w.heap.size,pt (w.heap.size+1),pt (w.heap.size+1+1+1)]] 137:=⟨_,rfl⟩
  obtain ⟨VA,hVA⟩:∃ VA,VA=V.alloc fs:=⟨_,rfl⟩
  have HVA:Hid (VA=((((w.alloc (.cells #[pt p] 26)).alloc (.cells #[.string tmp] 9)).alloc (.cells #[.string text] 9)).alloc (.cells #[.string name] 9)).alloc (.cells #[.func (.func 223) #[] #[pt w.heap.size,pt (w.heap.size+1)],.func (.func 224) #[] #[pt w.heap.size,pt (w.heap.size+1),pt (w.heap.size+1+1)],.func (.func 225) #[] #[pt w.heap.size,pt (w.heap.size+1)],.func (.func 226) #[] #[pt w.heap.size,pt (w.heap.size+1),pt (w.heap.size+1+1+1)]] 137)):=by rw [hVA,hV,hfs];exact rfl
  have tA:Turned (fun _=>False) V VA:=by rw [hVA];exact Turned.alloc _ _ _
  have fA:VA.heap[w.heap.size+1+1+1+1]? = some fs:=by rw [hVA,←zV];exact Go.Mine.heap_alloc_new _ _
  rw [hfs]at fA
  have tWA:Turned (fun _=>False) w VA:=tV.trans tA fun _ _ z=>z
  have hpl:=lt_of_block hp
  have HB:Hid (∀ W,Turned S VA W→(W.cell? ⟨w.heap.size,0,none⟩=some (pt p)∧W.cell? ⟨w.heap.size+1,0,none⟩=some (.string tmp)∧W.cell? ⟨w.heap.size+1+1,0,none⟩=some (.string text)∧W.cell? ⟨w.heap.size+1+1+1,0,none⟩=some (.string name)∧W.cell? ⟨p,0,none⟩=some (pt d)) ∧
      W.heap[w.heap.size+1+1+1+1]? = some (.cells #[.func (.func 223) #[] #[pt w.heap.size,pt (w.heap.size+1)],.func (.func 224) #[] #[pt w.heap.size,pt (w.heap.size+1),pt (w.heap.size+1+1)],.func (.func 225) #[] #[pt w.heap.size,pt (w.heap.size+1)],.func (.func 226) #[] #[pt w.heap.size,pt (w.heap.size+1),pt (w.heap.size+1+1+1)]] 137)):=fun W t=>by
    have hn:∀ b,w.heap.size≤b→¬ S b:=fun b hb z=>by have:=hbd b z;omega
    exact ⟨⟨cell_of (boxed (boxed b0 tA id) t (hn _ (by omega))) 0 _ rfl,cell_of (boxed (boxed b1 tA id) t (hn _ (by omega))) 0 _ rfl,cell_of (boxed (boxed b2 tA id) t (hn _ (by omega))) 0 _ rfl,cell_of (boxed (boxed b3 tA id) t (hn _ (by omega))) 0 _ rfl,cell_of (boxed (boxed hp tWA id) t hpS) 0 _ rfl⟩,boxed fA t (hn _ (by omega))⟩
  have HTA:Hid (Turned (fun _=>False) w VA):=tWA
  obtain ⟨D1,k0,h1⟩:∃ D1 k0,D.create tmp=(D1,k0):=⟨_,_,rfl⟩
  obtain ⟨D2,k1,h2⟩:∃ D2 k1,D1.append tmp text=(D2,k1):=⟨_,_,rfl⟩
  obtain ⟨D3,k2,h3⟩:∃ D3 k2,D2.sync tmp=(D3,k2):=⟨_,_,rfl⟩
  obtain ⟨D4,k3,h4⟩:∃ D4 k3,D3.rename tmp name=(D4,k3):=⟨_,_,rfl⟩
  have o1:=hok.createOk tmp
  have q1:=hfew.create tmp
  rw [h1]at o1 q1
  have o2:=o1.appendOk tmp text
  have q2:=q1.append tmp text
  rw [h2]at o2 q2
  have o3:=o2.syncOk tmp
  have q3:=q2.sync tmp
  rw [h3]at o3 q3
  have HD:Hid (D.create tmp=(D1,k0)∧D1.append tmp text=(D2,k1)∧D2.sync tmp=(D3,k2)∧D3.rename tmp name=(D4,k3)):=⟨h1,h2,h3,h4⟩
  have F0:FsTo VA S d D VA:=FsTo.stay (hD.turned tWA fun _ _ z=>z) fun b hb=>Nat.lt_of_lt_of_le (hbd b hb) tWA.size
  have HS0:Hid (∀ W,FsTo VA S d D W→Calls Tryz.prog 223 #[pt w.heap.size,pt (w.heap.size+1)] W fun e w'=>e = .returned (.int .i64 (k0:Nat))∧FsTo VA S d D1 w'):=fun W f=>by
    obtain ⟨S1,a1,a2,a3,a4⟩:=f
    obtain ⟨⟨c0,c1,c2,c3,c4⟩,-⟩:=HB.out W a4
    refine x223_any c0 c1 c4 (fun W2 t=>?_) fun W2 ⟨S2,_,_,_,t2⟩=>by obtain ⟨⟨e0,e1,e2,e3,e4⟩,-⟩:=HB.out W2 t2;exact ⟨e0,e1,e4⟩
    have:=fsCreate (a1.turned t fun _ _ z=>z) hok (by have:=hfew.1;omega) (by have:=hfew.2;omega) tmp
    rw [h1]at this
    exact this.mono fun e w' ⟨x,y⟩=>⟨x,(y.next a2 ((a4.trans t fun _ _ z=>z.elim)))⟩
  have HS1:Hid (∀ W,FsTo VA S d D1 W→Calls Tryz.prog 224 #[pt w.heap.size,pt (w.heap.size+1),pt (w.heap.size+1+1)] W fun e w'=>e = .returned (.int .i64 (k1:Nat))∧FsTo VA S d D2 w'):=fun W f=>by
    obtain ⟨S1,a1,a2,a3,a4⟩:=f
    obtain ⟨⟨c0,c1,c2,c3,c4⟩,-⟩:=HB.out W a4
    refine x224_any c0 c1 c2 c4 (fun W2 t=>?_) fun W2 ⟨S2,_,_,_,t2⟩=>by obtain ⟨⟨e0,e1,e2,e3,e4⟩,-⟩:=HB.out W2 t2;exact ⟨e0,e1,e2,e4⟩
    have:=fsAppend (a1.turned t fun _ _ z=>z) o1 tmp text htx
    rw [h2]at this
    exact this.mono fun e w' ⟨x,y⟩=>⟨x,(y.next a2 ((a4.trans t fun _ _ z=>z.elim)))⟩
  have HS2:Hid (∀ W,FsTo VA S d D2 W→Calls Tryz.prog 225 #[pt w.heap.size,pt (w.heap.size+1)] W fun e w'=>e = .returned (.int .i64 (k2:Nat))∧FsTo VA S d D3 w'):=fun W f=>by
    obtain ⟨S1,a1,a2,a3,a4⟩:=f
    obtain ⟨⟨c0,c1,c2,c3,c4⟩,-⟩:=HB.out W a4
    refine x225_any c0 c1 c4 (fun W2 t=>?_) fun W2 ⟨S2,_,_,_,t2⟩=>by obtain ⟨⟨e0,e1,e2,e3,e4⟩,-⟩:=HB.out W2 t2;exact ⟨e0,e1,e4⟩
    have:=fsSync (a1.turned t fun _ _ z=>z) o2 tmp
    rw [h3]at this
    exact this.mono fun e w' ⟨x,y⟩=>⟨x,(y.next a2 ((a4.trans t fun _ _ z=>z.elim)))⟩
  have HS3:Hid (∀ W,FsTo VA S d D3 W→Calls Tryz.prog 226 #[pt w.heap.size,pt (w.heap.size+1),pt (w.heap.size+1+1+1)] W fun e w'=>e = .returned (.int .i64 (k3:Nat))∧FsTo VA S d D4 w'):=fun W f=>by
    obtain ⟨S1,a1,a2,a3,a4⟩:=f
    obtain ⟨⟨c0,c1,c2,c3,c4⟩,-⟩:=HB.out W a4
    refine x226_any c0 c1 c3 c4 (fun W2 t=>?_) fun W2 ⟨S2,_,_,_,t2⟩=>by obtain ⟨⟨e0,e1,e2,e3,e4⟩,-⟩:=HB.out W2 t2;exact ⟨e0,e1,e3,e4⟩
    have:=fsRename (a1.turned t fun _ _ z=>z) o3 (by have:D3.pend.length≤900000000+1:=q3.1;omega) tmp name
    rw [h4]at this
    exact this.mono fun e w' ⟨x,y⟩=>⟨x,(y.next a2 ((a4.trans t fun _ _ z=>z.elim)))⟩
  have B0:Hid (WxRel VA S d D tmp text name 4 (.int .i64 0) VA):=⟨D1,D2,D3,D4,k0,k1,k2,k3,h1,h2,h3,h4,.inl ⟨rfl,rfl,F0⟩⟩
  obtain ⟨fa,hfa⟩:∃ fa,fa=w.heap.size+1+1+1+1:=⟨_,rfl⟩
  have HFA:Hid (∀ W,Turned S VA W→W.heap[fa]? = some (.cells #[.func (.func 223) #[] #[pt w.heap.size,pt (w.heap.size+1)],.func (.func 224) #[] #[pt w.heap.size,pt (w.heap.size+1),pt (w.heap.size+1+1)],.func (.func 225) #[] #[pt w.heap.size,pt (w.heap.size+1)],.func (.func 226) #[] #[pt w.heap.size,pt (w.heap.size+1),pt (w.heap.size+1+1+1)]] 137)):=fun W t=>by rw [hfa];exact (HB.out W t).2
  have HFAE:Hid (fa=w.heap.size+1+1+1+1):=hfa
  clear hD hok hfew hp hpS hbd htx hV tV b0 b1 b2 b3 zV hVA tA fA tWA hpl hfs h1 h2 h3 h4 o1 q1 o2 q2 o3 q3 F0 hfa
  go_enter Tryz.func136,Tryz.ntmps136
  go_wp2
  rw [←HVA.out,←HFAE.out]
  go_loopg [18] 4 (fun g iv wr=>WxRel VA S d D tmp text name g iv wr)
  case atStart=>exact B0.out
  case round=>
    clear B0
    obtain ⟨E1,E2,E3,E4,j0,j1,j2,j3,h1,h2,h3,h4,hc⟩:=hrel
    rw [HD.out.1]at h1
    simp only [Prod.mk.injEq]at h1
    obtain ⟨rfl,rfl⟩:=h1
    rw [HD.out.2.1]at h2
    simp only [Prod.mk.injEq]at h2
    obtain ⟨rfl,rfl⟩:=h2
    rw [HD.out.2.2.1]at h3
    simp only [Prod.mk.injEq]at h3
    obtain ⟨rfl,rfl⟩:=h3
    rw [HD.out.2.2.2]at h4
    simp only [Prod.mk.injEq]at h4
    obtain ⟨rfl,rfl⟩:=h4
    rcases hc with ⟨rfl,rfl,hf⟩|⟨rfl,rfl,e0,hf⟩|⟨rfl,rfl,e0,e1,hf⟩|⟨rfl,rfl,e0,e1,e2,hf⟩|⟨rfl,rfl,e0,e1,e2,e3,hf⟩
    · have HF : Hid _ := hidS hf
      obtain ⟨S1,a1,a2,a3,a4⟩:=hf
      have hb:=HFA.out wr a4
      have c0:wr.cell? ⟨fa,0,none⟩=some (.func (.func 223) #[] #[pt w.heap.size,pt (w.heap.size+1)]):=cell_of hb 0 _ rfl
      have c1:wr.cell? ⟨fa,1,none⟩=some (.func (.func 224) #[] #[pt w.heap.size,pt (w.heap.size+1),pt (w.heap.size+1+1)]):=cell_of hb 1 _ rfl
      have c2:wr.cell? ⟨fa,2,none⟩=some (.func (.func 225) #[] #[pt w.heap.size,pt (w.heap.size+1)]):=cell_of hb 2 _ rfl
      have c3:wr.cell? ⟨fa,3,none⟩=some (.func (.func 226) #[] #[pt w.heap.size,pt (w.heap.size+1),pt (w.heap.size+1+1+1)]):=cell_of hb 3 _ rfl
      have lf:=lt_of_block hb
      clear hb a1 a2 a3 a4
      by_cases hk:k0=0
      · have d1 : ((k0 : Int) == 0) = true := by simp; omega
        have d2:((k0:Int) != 0)=false:=by simp;omega
        have HK:Hid (k0=0):=hk
        clear hk
        go_wp2_with (go_at_call 223;(with_reducible refine (HS0.out wr HF.out).mono ?_);rintro e w2 ⟨rfl,q⟩;replace q:Hid _:=hidS q)
        go_roundg 3
        case measure=>omega
        case rel=>exact ⟨D1,D2,D3,D4,k0,k1,k2,k3,HD.out.1,HD.out.2.1,HD.out.2.2.1,HD.out.2.2.2,.inr (.inl ⟨rfl,rfl,HK.out,q.out⟩)⟩
      · have d1 : ((k0 : Int) == 0) = false := by simp; omega
        have d2:((k0:Int) != 0)=true:=by simp;omega
        have HK:Hid (¬ k0=0):=hk
        clear hk
        go_wp2_with (go_at_call 223;(with_reducible refine (HS0.out wr HF.out).mono ?_);rintro e w2 ⟨rfl,q⟩;replace q:Hid _:=hidS q)
        go_ret
        have hR:writeX D tmp text name=(D1,k0):=writeX_1 HD.out.1 HK.out
        rw [HR.out,hR]
        exact ⟨rfl,q.out.next (fun b hb=>.inl hb) (HTA.out.mono fun _ _ z=>z.elim)⟩
    · have HF : Hid _ := hidS hf
      obtain ⟨S1,a1,a2,a3,a4⟩:=hf
      have hb:=HFA.out wr a4
      have c0:wr.cell? ⟨fa,0,none⟩=some (.func (.func 223) #[] #[pt w.heap.size,pt (w.heap.size+1)]):=cell_of hb 0 _ rfl
      have c1:wr.cell? ⟨fa,1,none⟩=some (.func (.func 224) #[] #[pt w.heap.size,pt (w.heap.size+1),pt (w.heap.size+1+1)]):=cell_of hb 1 _ rfl
      have c2:wr.cell? ⟨fa,2,none⟩=some (.func (.func 225) #[] #[pt w.heap.size,pt (w.heap.size+1)]):=cell_of hb 2 _ rfl
      have c3:wr.cell? ⟨fa,3,none⟩=some (.func (.func 226) #[] #[pt w.heap.size,pt (w.heap.size+1),pt (w.heap.size+1+1+1)]):=cell_of hb 3 _ rfl
      have lf:=lt_of_block hb
      have He0:Hid _:=hidS e0
      clear hb a1 a2 a3 a4 e0
      by_cases hk:k1=0
      · have d1 : ((k1 : Int) == 0) = true := by simp; omega
        have d2:((k1:Int) != 0)=false:=by simp;omega
        have HK:Hid (k1=0):=hk
        clear hk
        go_wp2_with (go_at_call 224;(with_reducible refine (HS1.out wr HF.out).mono ?_);rintro e w2 ⟨rfl,q⟩;replace q:Hid _:=hidS q)
        go_roundg 2
        case measure=>omega
        case rel=>exact ⟨D1,D2,D3,D4,k0,k1,k2,k3,HD.out.1,HD.out.2.1,HD.out.2.2.1,HD.out.2.2.2,.inr (.inr (.inl ⟨rfl,rfl,He0.out,HK.out,q.out⟩))⟩
      · have d1 : ((k1 : Int) == 0) = false := by simp; omega
        have d2:((k1:Int) != 0)=true:=by simp;omega
        have HK:Hid (¬ k1=0):=hk
        clear hk
        go_wp2_with (go_at_call 224;(with_reducible refine (HS1.out wr HF.out).mono ?_);rintro e w2 ⟨rfl,q⟩;replace q:Hid _:=hidS q)
        go_ret
        have hR:writeX D tmp text name=(D2,k1):=writeX_2 (by rw [HD.out.1,He0.out]) HD.out.2.1 HK.out
        rw [HR.out,hR]
        exact ⟨rfl,q.out.next (fun b hb=>.inl hb) (HTA.out.mono fun _ _ z=>z.elim)⟩
    · have HF : Hid _ := hidS hf
      obtain ⟨S1,a1,a2,a3,a4⟩:=hf
      have hb:=HFA.out wr a4
      have c0:wr.cell? ⟨fa,0,none⟩=some (.func (.func 223) #[] #[pt w.heap.size,pt (w.heap.size+1)]):=cell_of hb 0 _ rfl
      have c1:wr.cell? ⟨fa,1,none⟩=some (.func (.func 224) #[] #[pt w.heap.size,pt (w.heap.size+1),pt (w.heap.size+1+1)]):=cell_of hb 1 _ rfl
      have c2:wr.cell? ⟨fa,2,none⟩=some (.func (.func 225) #[] #[pt w.heap.size,pt (w.heap.size+1)]):=cell_of hb 2 _ rfl
      have c3:wr.cell? ⟨fa,3,none⟩=some (.func (.func 226) #[] #[pt w.heap.size,pt (w.heap.size+1),pt (w.heap.size+1+1+1)]):=cell_of hb 3 _ rfl
      have lf:=lt_of_block hb
      have He0:Hid _:=hidS e0
      have He1:Hid _:=hidS e1
      clear hb a1 a2 a3 a4 e0 e1
      by_cases hk:k2=0
      · have d1 : ((k2 : Int) == 0) = true := by simp; omega
        have d2:((k2:Int) != 0)=false:=by simp;omega
        have HK:Hid (k2=0):=hk
        clear hk
        go_wp2_with (go_at_call 225;(with_reducible refine (HS2.out wr HF.out).mono ?_);rintro e w2 ⟨rfl,q⟩;replace q:Hid _:=hidS q)
        go_roundg 1
        case measure=>omega
        case rel=>exact ⟨D1,D2,D3,D4,k0,k1,k2,k3,HD.out.1,HD.out.2.1,HD.out.2.2.1,HD.out.2.2.2,.inr (.inr (.inr (.inl ⟨rfl,rfl,He0.out,He1.out,HK.out,q.out⟩)))⟩
      · have d1 : ((k2 : Int) == 0) = false := by simp; omega
        have d2:((k2:Int) != 0)=true:=by simp;omega
        have HK:Hid (¬ k2=0):=hk
        clear hk
        go_wp2_with (go_at_call 225;(with_reducible refine (HS2.out wr HF.out).mono ?_);rintro e w2 ⟨rfl,q⟩;replace q:Hid _:=hidS q)
        go_ret
        have hR:writeX D tmp text name=(D3,k2):=writeX_3 (by rw [HD.out.1,He0.out]) (by rw [HD.out.2.1,He1.out]) HD.out.2.2.1 HK.out
        rw [HR.out,hR]
        exact ⟨rfl,q.out.next (fun b hb=>.inl hb) (HTA.out.mono fun _ _ z=>z.elim)⟩
    · have HF : Hid _ := hidS hf
      obtain ⟨S1,a1,a2,a3,a4⟩:=hf
      have hb:=HFA.out wr a4
      have c0:wr.cell? ⟨fa,0,none⟩=some (.func (.func 223) #[] #[pt w.heap.size,pt (w.heap.size+1)]):=cell_of hb 0 _ rfl
      have c1:wr.cell? ⟨fa,1,none⟩=some (.func (.func 224) #[] #[pt w.heap.size,pt (w.heap.size+1),pt (w.heap.size+1+1)]):=cell_of hb 1 _ rfl
      have c2:wr.cell? ⟨fa,2,none⟩=some (.func (.func 225) #[] #[pt w.heap.size,pt (w.heap.size+1)]):=cell_of hb 2 _ rfl
      have c3:wr.cell? ⟨fa,3,none⟩=some (.func (.func 226) #[] #[pt w.heap.size,pt (w.heap.size+1),pt (w.heap.size+1+1+1)]):=cell_of hb 3 _ rfl
      have lf:=lt_of_block hb
      have He0:Hid _:=hidS e0
      have He1:Hid _:=hidS e1
      have He2:Hid _:=hidS e2
      clear hb a1 a2 a3 a4 e0 e1 e2
      by_cases hk:k3=0
      · have d1 : ((k3 : Int) == 0) = true := by simp; omega
        have d2:((k3:Int) != 0)=false:=by simp;omega
        have HK:Hid (k3=0):=hk
        clear hk
        go_wp2_with (go_at_call 226;(with_reducible refine (HS3.out wr HF.out).mono ?_);rintro e w2 ⟨rfl,q⟩;replace q:Hid _:=hidS q)
        go_roundg 0
        case measure=>omega
        case rel=>exact ⟨D1,D2,D3,D4,k0,k1,k2,k3,HD.out.1,HD.out.2.1,HD.out.2.2.1,HD.out.2.2.2,.inr (.inr (.inr (.inr ⟨rfl,rfl,He0.out,He1.out,He2.out,HK.out,q.out⟩)))⟩
      · have d1 : ((k3 : Int) == 0) = false := by simp; omega
        have d2:((k3:Int) != 0)=true:=by simp;omega
        have HK:Hid (¬ k3=0):=hk
        clear hk
        go_wp2_with (go_at_call 226;(with_reducible refine (HS3.out wr HF.out).mono ?_);rintro e w2 ⟨rfl,q⟩;replace q:Hid _:=hidS q)
        go_ret
        have hR:writeX D tmp text name=(D4,k3):=writeX_4 (by rw [HD.out.1,He0.out]) (by rw [HD.out.2.1,He1.out]) (by rw [HD.out.2.2.1,He2.out]) HD.out.2.2.2
        rw [HR.out,hR]
        exact ⟨rfl,q.out.next (fun b hb=>.inl hb) (HTA.out.mono fun _ _ z=>z.elim)⟩
    · have HF : Hid _ := hidS hf
      have He0:Hid _:=hidS e0
      have He1:Hid _:=hidS e1
      have He2:Hid _:=hidS e2
      have He3:Hid _:=hidS e3
      clear hf e0 e1 e2 e3
      go_wp2
      go_ret
      have hR:writeX D tmp text name=(D4,k3):=writeX_4 (by rw [HD.out.1,He0.out]) (by rw [HD.out.2.1,He1.out]) (by rw [HD.out.2.2.1,He2.out]) HD.out.2.2.2
      rw [HR.out,hR,He3.out]
      exact ⟨rfl,HF.out.next (fun b hb=>.inl hb) (HTA.out.mono fun _ _ z=>z.elim)⟩
end Go.Proofs.YtofcogekgcgjhaaGreatDoor
