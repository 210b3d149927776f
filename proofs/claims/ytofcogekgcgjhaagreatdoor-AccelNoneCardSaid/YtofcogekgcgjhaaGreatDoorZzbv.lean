/- Packed. -/
import Derived.Test.YtofcogekgcgjhaaGreatDoorZzbu
set_option linter.unusedVariables false
set_option linter.unusedSimpArgs false
set_option maxRecDepth 100000
namespace Go.Proofs.YtofcogekgcgjhaaGreatDoor
open Go.RowKit Go.Mine Go.Mine.Ac
abbrev ixC (sm:Nat):Ix:=ix1 2 sm ⟨0,3,10,9,0,[rA,rB]⟩
structure Idx2 (w:World) (d p:Nat) (W:World):Prop where
 row:∀ W',Turned (fun _=>False) W W'→Calls Tryz.prog 20 #[pt p,.int .i64 1] W' fun e w'=>(∃ a cap,e = .returned (.tuple #[.agg #[.slice a 1 cap,.int .i64 0,.int .i64 2,.int .i64 (makeF usualG []).state,.string (makeF usualG []).bits],.bool true]))∧Turned (fun _=>False) W w'
 len:∀ W',Turned (fun _=>False) W W'→Calls Tryz.prog 15 #[pt p] W' fun e w'=>e = .returned (.int .i64 2)∧Turned (fun _=>False) W w'
 nms:∀ W',Turned (fun _=>False) W W'→Calls Tryz.prog 36 #[pt d] W' fun e w'=>∃ a c,e = .returned (.slice a 3 c)∧Sl w' (fun b=>W'.heap.size≤b) 9 1 (.slice a 3 c) [.string chainB,.string g0B,.string logB] 3∧Turned (fun _=>False) W w'
 may0:∀ W',Turned (fun _=>False) W W'→Calls Tryz.prog 17 #[pt p,.int .i64 0,.string ⟨#[97]⟩] W' fun e w'=>e = .returned (.bool true)∧Turned (fun _=>False) W w'
 may1:∀ W',Turned (fun _=>False) W W'→Calls Tryz.prog 17 #[pt p,.int .i64 1,.string ⟨#[97]⟩] W' fun e w'=>e = .returned (.bool false)∧Turned (fun _=>False) W w'
 new:Turned (fun _=>False) w W
theorem idx2 {w W:World} {O:Nat→Prop} {d q p sm:Nat} {T C:ByteArray} (h:PwAt w W O d q p (dk3 10000 L3 T C) sC (ixC sm)):Idx2 w d p W:=by
 have hio:=ixB_ok h
 have hlen:(ixC sm).len=2:=by simp [ixC,ix1,Ix.len,Ch.totLn]
 obtain ⟨f0,f1⟩:=findC hio
 refine ⟨fun W' t=>?_,fun W' t=>?_,fun W' t=>?_,fun W' t=>?_,fun W' t=>?_,h.new_le⟩
 ·exact (pwi_row (h.still t) f1).mono fun e w' ⟨a,c,e1,e2,e3⟩=>⟨⟨a,c,e1⟩,t.trans e3 fun _ _ z=>z⟩
 ·refine (pwi_len (h.still t)).mono fun e w' ⟨a, b⟩ => ⟨?_, t.trans b fun _ _ z => z⟩
  rw [a,hlen]
 ·refine (pwi_names (h.still t)).mono fun e w' ⟨v, a, b, c⟩ => ?_
  rw [names_3]at b
  obtain ⟨a',c',rfl,-,-⟩:=b.value
  exact ⟨a',c',a,b,t.trans c fun _ _ z=>z⟩
 ·refine (pwi_may (path := aB) (h.still t) f0 (by decide)).mono fun e w' ⟨a, b⟩ => ⟨?_, t.trans b fun _ _ z => z⟩
  rw [a]
  exact congrArg (fun b=>Ending.returned (.bool b)) may_a
 ·refine (pwi_may (path := aB) (h.still t) f1 (by decide)).mono fun e w' ⟨a, b⟩ => ⟨?_, t.trans b fun _ _ z => z⟩
  rw [a]
  exact congrArg (fun b=>Ending.returned (.bool b)) may_0
set_option maxHeartbeats 4000000 in
theorem indexes_any (w:World) (tab:∀ W,Turned (fun _=>False) w W→Ch.Tab W∧Ch.Errs W):Calls Tryz.prog 12 #[] w fun e w'=>e = .returned (.bool true)∧Turned (fun _=>False) w w':=by
 have HN:Hid (Calls Tryz.prog 24 #[.int .i64 10000] w fun e w'=>∃ d,e = .returned (.tuple #[pt d,.int .i64 0])∧A1 w w' d 10000):=hidS (st_new 10000 (by decide) w)
 have HO:Hid (∀ w1 d,A1 w w1 d 10000→Calls Tryz.prog 25 #[pt d] w1 fun e w'=>∃ r,e = .returned (.tuple #[pt r,.int .i64 0])∧Sx w w' d r (dk1 10000 emp) noSt):=fun w1 d h=>(st_open (by decide) h).mono fun e w' ⟨r,a,b⟩=>⟨r,a,b.sx (by decide)⟩
 have HT:Hid (∀ W d q,Sx w W d q (dk1 10000 emp) noSt→Calls Tryz.prog 21 #[pt q,.slice (some ⟨W.heap.size,0,none⟩) 1 1] (W.alloc (.cells #[.string ⟨#[97]⟩,.int .u32 1] 96)) fun e w'=>e = .returned (.tuple #[.int .i64 0,.int .i64 0])∧Sx w w' d q (dk1 10000 L1) sA):=fun W d q h=>sx_tree (by decide) h
 have HC0:Hid (∀ W d q,Sx w W d q (dk1 10000 L1) sA→Calls Tryz.prog 22 #[pt q,.agg #[.slice none 0 0,.int .i64 0]] W fun e w'=>e = .returned (.tuple #[.int .i64 0,.int .i64 0])∧Sx w w' d q (dk1 10000 L2) sB):=fun W d q h=>sx_c0 (by decide) h
 have HC1:Hid (∀ W d q,Sx w W d q (dk1 10000 L2) sB→Calls Tryz.prog 22 #[pt q,.agg #[.slice (some ⟨W.heap.size,0,none⟩) 1 1,.int .i64 0]] (W.alloc (.cells #[.int .i64 0] 3)) fun e w'=>e = .returned (.tuple #[.int .i64 1,.int .i64 0])∧Sx w w' d q (dk1 10000 L3) sC):=fun W d q h=>sx_c1 (by decide) h
 have HCC:Hid (∀ W d q,Sx w W d q (dk1 10000 L3) sC→Calls Tryz.prog 30 #[pt q] W fun e w'=>e = .returned (.int .i64 2)∧W=w'):=fun W d q h=>sx_commits h
 have HI:Hid (∀ W d q,Sx w W d q (dk1 10000 L3) sC→Calls Tryz.prog 13 #[pt d,.int .i64 2] W fun e w'=>∃ p,e = .returned (.tuple #[pt p,.int .i64 0])∧Sc w w' w' (fun _=>False) d q p (dk1 10000 L3) sC noIx):=fun W d q h=>(sx_index h rfl rfl 2).mono fun e w' ⟨p,a,b⟩=>⟨p,a,b.sc⟩
 have HL0:Hid (∀ W0 W d q p,Sc w W0 W (fun _=>False) d q p (dk1 10000 L3) sC noIx→Calls Tryz.prog 15 #[pt p] W fun e w'=>e = .returned (.int .i64 0)∧Sc w W0 w' (fun _=>False) d q p (dk1 10000 L3) sC noIx):=fun W0 W d q p h=>by
  obtain ⟨O,h1⟩:=h.pw
  exact (pwi_len h1).mono fun e w' ⟨a,b⟩=>⟨a,h.still b⟩
 have HU:Hid (∀ W,Calls Tryz.prog 23 #[] W fun e w'=>e = .returned (.agg #[.int .i64 3,.int .i64 10,.int .i64 9,.int .u32 0])∧Turned (fun _=>False) W w'):=fun W=>usual23_any W
 have HUP:Hid (∀ W0 W d q p,Sc w W0 W (fun _=>False) d q p (dk1 10000 L3) sC noIx→Calls Tryz.prog 18 #[pt p,.iface 34 (pt q),.agg #[.int .i64 3,.int .i64 10,.int .i64 9,.int .u32 0]] W fun e w'=>e = .returned (.int .i64 0)∧Idx2 w d p w'):=fun W0 W d q p h=>by
  refine (sc_update tab h (by decide) (by decide) (by rw [L3_size];decide)).mono fun e w' ⟨a,T,C,sm,h1,h2,h3,h4,h5,h6,h7,h8⟩=>⟨a,?_⟩
  rw [newG_C]at h8
  obtain ⟨O,y⟩:=h8.pw
  exact idx2 y
 have HSN:Hid (∀ (W W0:World) (S:Nat→Prop) a c,Sl W0 S 9 1 (.slice a 3 c) [.string chainB,.string g0B,.string logB] 3→Turned (fun _=>False) W0 (W0.alloc (.cells #[.string ⟨#[99,104,97,105,110]⟩,.string ⟨#[103,114,97,112,104,45,48]⟩,.string ⟨#[108,111,103]⟩] 9))→Calls Tryz.prog 37 #[.slice a 3 c,.slice (some ⟨W0.heap.size,0,none⟩) 3 3] (W0.alloc (.cells #[.string ⟨#[99,104,97,105,110]⟩,.string ⟨#[103,114,97,112,104,45,48]⟩,.string ⟨#[108,111,103]⟩] 9)) fun e w'=>e = .returned (.bool true)∧Turned (fun _=>False) W0 w'):=fun W W0 S a c h t=>by
  have h2:Sl (W0.alloc (.cells #[.string chainB,.string g0B,.string logB] 9)) (· = W0.heap.size) 9 1 (.slice (some ⟨W0.heap.size,0,none⟩) 3 3) [.string chainB,.string g0B,.string logB] 3:=
   ⟨rfl,.inr ⟨W0.heap.size,0,3,#[.string chainB,.string g0B,.string logB],rfl,rfl,Go.Mine.heap_alloc_new W0 _,by decide,by simp [maxLen],by simp,by simp⟩⟩
  have:=samenames_any (l1:=[chainB,g0B,logB]) (l2:=[chainB,g0B,logB]) (h.turned t fun _ _ z=>z) h2 ⟨by decide,by decide⟩
  exact this.mono fun e w' ⟨x,y⟩=>⟨x,t.trans y fun _ _ z=>z⟩
 clear tab
 go_enter Tryz.func12,Tryz.ntmps12
 go_wp2_with (first
  |(go_at_call 24;(with_reducible refine HN.out.mono ?_);rintro e w1 ⟨d,rfl,y1⟩;replace y1:Hid _:=hidS y1)
  |(go_at_call 25;(with_reducible refine (HO.out _ d y1.out).mono ?_);rintro e w2 ⟨q,rfl,y2⟩;replace y2:Hid _:=hidS y2)
  |(go_at_call 21;(with_reducible refine (HT.out _ d q y2.out).mono ?_);rintro e w5 ⟨rfl,y5⟩;replace y5:Hid _:=hidS y5)
  |(go_at_call 22;(with_reducible refine (HC0.out _ d q y5.out).mono ?_);rintro e w6 ⟨rfl,y6⟩;replace y6:Hid _:=hidS y6)
  |(go_at_call 22;(with_reducible refine (HC1.out _ d q y6.out).mono ?_);rintro e w7 ⟨rfl,y7⟩;replace y7:Hid _:=hidS y7)
  |(go_at_call 30;(with_reducible refine (HCC.out _ d q y7.out).mono ?_);rintro e wx ⟨rfl,rfl⟩)
  |(go_at_call 13;(with_reducible refine (HI.out _ d q y7.out).mono ?_);rintro e w8 ⟨p,rfl,y8⟩;replace y8:Hid _:=hidS y8)
  |(go_at_call 15;(with_reducible refine (HL0.out _ _ d q p y8.out).mono ?_);rintro e w9 ⟨rfl,y9⟩;replace y9:Hid _:=hidS y9)
  |(go_at_call 23;(with_reducible refine (HU.out w9).mono ?_);rintro e w10 ⟨rfl,yu⟩;have y10:Hid _:=hidS (y9.out.still yu);clear yu)
  |(go_at_call 18;(with_reducible refine (HUP.out _ _ d q p y10.out).mono ?_);rintro e w11 ⟨rfl,y11⟩;replace y11:Hid _:=hidS y11;have Q0:Hid (Turned (fun _=>False) w11 w11):=hidS (Turned.refl _ _))
  |(go_at_call 20;(with_reducible refine (y11.out.row _ Q0.out).mono ?_);rintro e wx ⟨⟨a9,c9,rfl⟩,qx⟩;have xR:=heap_alloc_new wx (.cells #[.slice a9 1 c9,.int .i64 0,.int .i64 2,.int .i64 (makeF usualG []).state,.string (makeF usualG []).bits] 48);have r2:=cell_of xR 2 _ rfl;clear xR;clear Q0;have Q0:Hid _:=hidS (qx.new (.cells #[.slice a9 1 c9,.int .i64 0,.int .i64 2,.int .i64 (makeF usualG []).state,.string (makeF usualG []).bits] 48));clear qx)
  |(go_at_call 15;(with_reducible refine (y11.out.len _ Q0.out).mono ?_);rintro e wx ⟨rfl,qx⟩;clear Q0;have Q0:Hid _:=hidS qx;clear qx)
  |(go_at_call 36;(with_reducible refine (y11.out.nms _ Q0.out).mono ?_);rintro e w12 ⟨a12,c12,rfl,s12,qx⟩;clear Q0;have Q0:Hid _:=hidS (And.intro s12 qx);clear qx s12)
  |(go_at_call 37;(with_reducible refine (HSN.out w w12 _ a12 c12 Q0.out.1 (Turned.alloc _ _ _)).mono ?_);rintro e wx ⟨rfl,qx⟩;replace qx:=Q0.out.2.trans qx (fun _ _ z=>z);clear Q0;have Q0:Hid _:=hidS qx;clear qx)
  |(go_at_call 17;(with_reducible refine (y11.out.may0 _ Q0.out).mono ?_);rintro e wx ⟨rfl,qx⟩;clear Q0;have Q0:Hid _:=hidS qx;clear qx)
  |(go_at_call 17;(with_reducible refine (y11.out.may1 _ Q0.out).mono ?_);rintro e wx ⟨rfl,qx⟩;clear Q0;have Q0:Hid _:=hidS qx;clear qx))
 go_ret
 exact ⟨rfl,y11.out.new.trans Q0.out fun _ _ z=>z⟩
def BwPost (w:World) (r d v Q:Nat) (w' : World):Prop:=
 ∃ q p a b,w'.heap[r]? = some (.cells #[pt d,pt q,pt p,pt v,pt a,pt b] 39)∧Sc w w' w' (fun b=>b=r) d q p (dk1 Q emp) noSt noIx
set_option maxHeartbeats 4000000 in
theorem index86_any {w W:World} {O K:Nat→Prop} {r d q v a Q:Nat} {tv cv:Value} {ra:Nat→Nat} (hs:SwAt w W O d q (dk1 Q emp) noSt) (hO:¬ O r) (hw:w.heap.size≤r) (hk:RkIs W K v (dk1 Q emp)) (hQ:Q≤16777216) (hK:¬ K r)
  (hr:W.heap[r]? = some (.cells #[pt d,pt q,.pointer none,pt v,pt a,.pointer none] 39)) (ha:StAt 78 W ra a (pt v) tv cv noSt) :
  Calls Tryz.prog 86 #[pt r] W fun e w'=>e = .returned (.bool true)∧BwPost w r d v Q w':=by
 obtain ⟨Z,hZ⟩:∃ Z,Z=BwPost w r d v Q:=⟨_,rfl⟩
 have HZ:Hid (Z=BwPost w r d v Q):=hZ
 rw [←hZ]
 obtain ⟨ca,cc,rfl,-,-⟩:=ha.commits.choose_spec.1.value
 have lr:=lt_of_block hr
 have HC:Hid (∀ W1,Turned (fun _=>False) W W1→Calls Tryz.prog 30 #[pt q] W1 fun e w'=>e = .returned (.int .i64 0)∧W1=w'):=fun W1 t=>by
  obtain ⟨S,rs,tv,cv,h1,h2,h3,h4,h5,h6,h7,h8⟩:=hs.still t
  exact scommits_any h4
 have HI:Hid (∀ W1,Turned (fun _=>False) W W1→Calls Tryz.prog 13 #[pt d,.int .i64 0] W1 fun e w'=>∃ p,e = .returned (.tuple #[pt p,.int .i64 0])∧PwAt w w' (fun b=>O b∨W.heap.size≤b) d q p (dk1 Q emp) noSt noIx∧Turned (fun _=>False) W w'):=fun W1 t=>(sw_index (hs.still t) rfl rfl 0).mono fun e w' ⟨p,a,b,c⟩=>⟨p,a,b.mono fun x z=>z.imp id (Nat.le_trans t.size),t.trans c fun _ _ z=>z⟩
 have HKI:Hid (∀ W1,Turned (fun _=>False) W W1→Calls Tryz.prog 102 #[pt v,.int .i64 0] W1 fun e w'=>∃ b,e = .returned (.tuple #[pt b,.int .i64 0])∧Turned (fun _=>False) W1 w'):=fun W1 t=>
  (kxopenNew_any (hk.turned t fun _ _ z=>z) (dk1_ok Q hQ) rfl 0).mono fun e w' ⟨c,a1,a2,a3,a4,a5⟩=>⟨c,a1,a5⟩
 have HB:Hid (∀ W1,Turned (fun _=>False) W W1→(W1.cell? ⟨r,0,none⟩=some (pt d)∧W1.cell? ⟨r,1,none⟩=some (pt q))∧(W1.cell? ⟨r,3,none⟩=some (pt v)∧W1.cell? ⟨r,4,none⟩=some (pt a)∧W1.cell? ⟨a,2,none⟩=some (.slice ca 0 cc))∧r<W1.heap.size∧W1.frozen? ⟨r,2,none⟩=false∧W1.frozen? ⟨r,5,none⟩=false∧W1.cell? ⟨r,2,none⟩=some (.pointer none)∧W1.cell? ⟨r,5,none⟩=some (.pointer none)):=fun W1 t=>by
  have h1:=boxed hr t id
  have h2:=boxed ha.blk t id
  exact ⟨⟨cell_of h1 0 _ rfl,cell_of h1 1 _ rfl⟩,⟨cell_of h1 3 _ rfl,cell_of h1 4 _ rfl,cell_of h2 2 _ rfl⟩,lt_of_block h1,free_of h1 2,free_of h1 5,cell_of h1 2 _ rfl,cell_of h1 5 _ rfl⟩
 have FIN:Hid (∀ w1 w2 p b,PwAt w w1 (fun b=>O b∨W.heap.size≤b) d q p (dk1 Q emp) noSt noIx→Turned (fun _=>False) W w1→Turned (fun _=>False) w1 w2→BwPost w r d v Q ((w2.setCell ⟨r,2,none⟩ (pt p)).setCell ⟨r,5,none⟩ (pt b))):=fun w1 w2 p b h t1 t2=>by
  have hb:=boxed (boxed hr t1 id) t2 id
  have t3:Turned (fun b=>b=r) w2 ((w2.setCell ⟨r,2,none⟩ (pt p)).setCell ⟨r,5,none⟩ (pt b)):=((Turned.refl (fun b=>b=r) w2).set (p:=⟨r,2,none⟩) rfl _).set (p:=⟨r,5,none⟩) rfl _
  have e1:=Go.Mine.heap_setCell_same (Go.Mine.heap_setCell_same hb (o:=2) (pt p)) (o:=5) (pt b)
  refine ⟨q,p,a,b,by simpa using e1,_,((h.still t2).turned t3 (fun b z y=>?_) fun b y=>by rw [y];exact hw).bound,fun b z=>z.2,fun b z=>⟨fun y=>?_,by rw [z];exact lt_of_block (by simpa using e1)⟩,Turned.refl _ _⟩
  ·rw [y]at z;exact z.elim hO fun z=>by omega
  ·rw [z]at y;exact y.1.elim hO fun z=>by omega
 have Q0:Hid (Turned (fun _=>False) W W.drew):=hidS (Turned.drew _ _)
 clear hZ hs hO hw hk hQ hK hr ha lr
 go_enter Tryz.func86,Tryz.ntmps86
 go_wp2
 go_region_held3 (fun W=>W.cell? ⟨r,0,none⟩=some (pt d)∧W.cell? ⟨r,1,none⟩=some (pt q))
  (first|(exact (HB.out _ Q0.out).1)|(exact (HB.out _ t1).1)|go_keep)
  (first
   |(go_at_call 30;(with_reducible refine (HC.out _ Q0.out).mono ?_);rintro e w1 ⟨rfl,rfl⟩)
   |(go_at_call 13;(with_reducible refine (HI.out _ Q0.out).mono ?_);rintro e w1 ⟨p,rfl,y1,t1⟩))
 go_wp2
 have Q1:Hid (Turned (fun _=>False) W w1.drew):=hidS (t1.trans (Turned.drew _ _) fun _ _ z=>z)
 have Y1:Hid _:=hidS (And.intro y1 t1)
 clear y1
 go_region_held3 (fun W=>W.cell? ⟨r,3,none⟩=some (pt v)∧W.cell? ⟨r,4,none⟩=some (pt a)∧W.cell? ⟨a,2,none⟩=some (.slice ca 0 cc))
  (first|(exact (HB.out _ Q1.out).2.1)|(exact (HB.out _ t2).2.1)|go_keep)
  (first
   |(go_at_call 102;(with_reducible refine (HKI.out _ Q1.out).mono ?_);rintro e w2 ⟨b,rfl,t2'⟩;have t2:=Q1.out.trans t2' fun _ _ z=>z))
 obtain ⟨-,-,l1,l2,l3,l4,l5⟩:=HB.out _ t2
 go_wp2
 go_ret
 rw [HZ.out]
 exact ⟨rfl,FIN.out w1 w2 p b Y1.out.1 Y1.out.2 ((Turned.drew _ _).trans t2' fun _ _ z=>z)⟩
set_option maxHeartbeats 4000000 in
theorem open57_any {w W:World} {S0 K0:Nat→Prop} {r d v Q:Nat} (hQ:Q≤16777216) (hs:FsIs W S0 d ⟨Q,[],[],[],[],0,false⟩) (hS:∀ b,S0 b→(w.heap.size≤b∧b<W.heap.size)∧¬ b=r) (hk:RkIs W K0 v ⟨Q,[],[],[],[],0,false⟩) (hK:∀ b,K0 b→(w.heap.size≤b∧b<W.heap.size)∧¬ S0 b∧¬ b=r) (hw:w.heap.size≤r) (tw:Turned (fun _=>False) w W)
  (hr:W.heap[r]? = some (.cells #[pt d,.pointer none,.pointer none,pt v,.pointer none,.pointer none] 39)) :
  Calls Tryz.prog 57 #[pt r] W fun e w'=>e = .returned (.bool true)∧BwPost w r d v Q w':=by
 obtain ⟨Z,hZ⟩:∃ Z,Z=BwPost w r d v Q:=⟨_,rfl⟩
 have HZ:Hid (Z=BwPost w r d v Q):=hZ
 rw [←hZ]
 have lr:=lt_of_block hr
 have HO:Hid (Calls Tryz.prog 25 #[pt d] W fun e w'=>∃ q,e = .returned (.tuple #[pt q,.int .i64 0])∧SwAt w w' (fun b=>S0 b∨W.heap.size≤b) d q (dk1 Q emp) noSt∧Turned S0 W w'):=hidS (SwAt.opened hQ hs (fun b z=>(hS b z).1) tw)
 have HKO:Hid (∀ w1,Turned S0 W w1→Calls Tryz.prog 101 #[pt v] w1 fun e w'=>∃ a,e = .returned (.tuple #[pt a,.int .i64 0])∧(∃ K1 ra tv cv,RkIs w' K1 v (dk1 Q emp)∧¬ K1 r∧StAt 78 w' ra a (pt v) tv cv noSt∧ra r=0)∧Turned K0 w1 w'):=fun w1 t=>by
  refine (kopenNew_any (D1:=⟨Q,[⟨emp,0⟩],[(logB,0)],[],[⟨emp,logB,0⟩],0,false⟩) (D2:=dk1 Q emp) (hk.turned t fun b z=>(hK b z).2.1) (dk0_ok Q hQ) (by simp) (by simp) (fun b z=>Nat.lt_of_lt_of_le (hK b z).1.2 t.size) rfl rfl rfl).mono fun e w' ⟨S,a1,a2,a3,a4,r',rs,tv,cv,a5,a6,a7⟩=>?_
  have z:=t.size
  refine ⟨r',a5,⟨S,rs,tv,cv,a1,fun y=>(a2 r y).elim (fun y=>(hK r y).2.2 rfl) fun y=>by omega,a6,?_⟩,a4⟩
  apply Classical.byContradiction
  intro y
  have:=(a7 r y).1
  omega
 have HB:Hid (∀ w1,Turned S0 W w1→w1.cell? ⟨r,3,none⟩=some (pt v)):=fun w1 t=>cell_of (boxed hr t fun z=>(hS r z).2 rfl) 3 _ rfl
 have HB2:Hid (∀ w1 w2,Turned S0 W w1→Turned K0 w1 w2→w2.heap[r]? = some (.cells #[pt d,.pointer none,.pointer none,pt v,.pointer none,.pointer none] 39)):=fun w1 w2 t t2=>boxed (boxed hr t fun z=>(hS r z).2 rfl) t2 fun z=>(hK r z).2.2 rfl
 have FIN:Hid (∀ w1 w2 q a,SwAt w w1 (fun b=>S0 b∨W.heap.size≤b) d q (dk1 Q emp) noSt→Turned S0 W w1→(∃ K1 ra tv cv,RkIs w2 K1 v (dk1 Q emp)∧¬ K1 r∧StAt 78 w2 ra a (pt v) tv cv noSt∧ra r=0)→Turned K0 w1 w2→Calls Tryz.prog 86 #[pt r] ((w2.setCell ⟨r,1,none⟩ (pt q)).setCell ⟨r,4,none⟩ (pt a)) fun e w'=>e = .returned (.bool true)∧BwPost w r d v Q w'):=fun w1 w2 q a h t1 ⟨K1,ra,tv,cv,g1,g2,g3,g4⟩ t2=>by
  have hb:w2.heap[r]? = some (.cells #[pt d,.pointer none,.pointer none,pt v,.pointer none,.pointer none] 39):=HB2.out w1 w2 t1 t2
  have t3:Turned (fun b=>b=r) w2 ((w2.setCell ⟨r,1,none⟩ (pt q)).setCell ⟨r,4,none⟩ (pt a)):=((Turned.refl (fun b=>b=r) w2).set (p:=⟨r,1,none⟩) rfl _).set (p:=⟨r,4,none⟩) rfl _
  have e1:=Go.Mine.heap_setCell_same (Go.Mine.heap_setCell_same hb (o:=1) (pt q)) (o:=4) (pt a)
  have hz:=t1.size
  refine index86_any (ra:=ra) (((h.turned t2 (fun b z y=>?_) fun b y=>(hK b y).1.1).turned t3 (fun b z y=>?_) fun b y=>by rw [y];exact hw)) (fun z=>z.elim (fun z=>(hS r z).2 rfl) fun z=>by omega) hw (g1.turned t3 fun b z y=>g2 (y ▸ z)) hQ g2 (by simpa using e1) (g3.turned t3 fun b z y=>z (y ▸ g4))
  ·exact z.elim (fun z=>(hK b y).2.1 z) fun z=>by have:=(hK b y).1.2;omega
  ·rw [y]at z;exact z.elim (fun z=>(hS r z).2 rfl) fun z=>by omega
 have r0:=cell_of hr 0 _ rfl
 clear hZ hs hS hk hK hw tw hr
 go_enter Tryz.func57,Tryz.ntmps57
 go_wp2_with (first
  |(go_at_call 25;(with_reducible refine HO.out.mono ?_);rintro e w1 ⟨q,rfl,y1,t1⟩;have r3:=HB.out _ t1;replace y1:Hid _:=hidS y1;replace t1:Hid _:=hidS t1)
  |(go_at_call 101;(with_reducible refine (HKO.out _ t1.out).mono ?_);rintro e w2 ⟨a,rfl,y2,t2⟩;have hb:=HB2.out _ _ t1.out t2;have f1:=free_of hb 1;have f4:=free_of hb 4;have g1:=cell_of hb 1 _ rfl;have g4:=cell_of hb 4 _ rfl;have l2:=lt_of_block hb;clear hb;have h86:=FIN.out w1 w2 q a y1.out t1.out y2 t2;clear y2 t2)
  |(go_at_call 86;(with_reducible refine h86.mono ?_);rintro e w3 ⟨rfl,y3⟩;replace y3:Hid _:=hidS y3))
 go_ret
 rw [HZ.out]
 exact ⟨rfl,y3.out⟩
def BuPost (w:World) (Q:Nat) (e:Ending) (w' : World):Prop:=∃ r d v,e = .returned (.tuple #[pt r,.bool true])∧BwPost w r d v Q w'
set_option maxHeartbeats 4000000 in
theorem begun17_any (Q:Nat) (hQ:Q≤16777216) (w:World):Calls Tryz.prog 14 #[.int .i64 (Q:Nat)] w (BuPost w Q):=by
 obtain ⟨Z,hZ⟩:∃ Z,Z=BuPost w Q:=⟨_,rfl⟩
 have HZ:Hid (Z=BuPost w Q):=hZ
 rw [←hZ]
 obtain ⟨V,hV⟩:∃ V,V=w.alloc (.cells #[.pointer none,.pointer none,.pointer none,.pointer none,.pointer none,.pointer none] 39):=⟨_,rfl⟩
 have HVV:Hid (V=w.alloc (.cells #[.pointer none,.pointer none,.pointer none,.pointer none,.pointer none,.pointer none] 39)):=hV
 obtain ⟨tV,xV⟩:=one_box (w:=w) (.cells #[.pointer none,.pointer none,.pointer none,.pointer none,.pointer none,.pointer none] 39)
 rw [←hV]at tV xV
 have HN:Hid (Calls Tryz.prog 24 #[.int .i64 (Q:Nat)] V fun e w'=>∃ d,e = .returned (.tuple #[pt d,.int .i64 0])∧A1 V w' d Q):=hidS (st_new Q hQ V)
 have HK:Hid (∀ W,Calls Tryz.prog 56 #[.int .i64 (Q:Nat)] W fun e w'=>∃ d,e = .returned (.tuple #[pt d,.int .i64 0])∧K1 W w' d Q):=fun W=>kd_new Q hQ W
 have zV:=lt_of_block xV
 have HB:Hid (∀ w1 w2 d v,A1 V w1 d Q→K1 w1 w2 v Q→w2.heap[w.heap.size]? = some (.cells #[.pointer none,.pointer none,.pointer none,.pointer none,.pointer none,.pointer none] 39)):=fun w1 w2 d v h1 h2=>boxed (boxed xV h1.2 id) h2.2 id
 have FIN:Hid (∀ w1 w2 d v,A1 V w1 d Q→K1 w1 w2 v Q→Calls Tryz.prog 57 #[pt w.heap.size] ((w2.setCell ⟨w.heap.size,0,none⟩ (pt d)).setCell ⟨w.heap.size,3,none⟩ (pt v)) fun e w'=>e = .returned (.bool true)∧BwPost w w.heap.size d v Q w'):=fun w1 w2 d v h1 h2=>by
  have hb:w2.heap[w.heap.size]? = some (.cells #[.pointer none,.pointer none,.pointer none,.pointer none,.pointer none,.pointer none] 39):=HB.out w1 w2 d v h1 h2
  have t3:Turned (fun b=>b=w.heap.size) w2 ((w2.setCell ⟨w.heap.size,0,none⟩ (pt d)).setCell ⟨w.heap.size,3,none⟩ (pt v)):=((Turned.refl (fun b=>b=w.heap.size) w2).set (p:=⟨w.heap.size,0,none⟩) rfl _).set (p:=⟨w.heap.size,3,none⟩) rfl _
  have e1:=Go.Mine.heap_setCell_same (Go.Mine.heap_setCell_same hb (o:=0) (pt d)) (o:=3) (pt v)
  obtain ⟨f1,u1⟩:=h1
  obtain ⟨f2,u2⟩:=h2
  have z1:=u1.size
  have z2:=u2.size
  have z3:=t3.size
  refine open57_any hQ ((f1.turned u2 fun _ _ z=>z).turned t3 fun b z y=>by omega) (fun b z=>⟨⟨by omega,by omega⟩,by omega⟩) (f2.turned t3 fun b z y=>by omega) (fun b z=>⟨⟨by omega,by omega⟩,by omega,by omega⟩) (Nat.le_refl _) (((tV.trans u1 fun _ _ z=>z).trans u2 fun _ _ z=>z).comp t3 fun i hi z=>z.elim id fun z=>by omega) (by simpa using e1)
 clear hZ hV tV xV hQ
 go_enter Tryz.func14,Tryz.ntmps14
 go_wp2_with fail
 rw [←HVV.out]
 go_wp2_with (first
  |(go_at_call 24;(with_reducible refine HN.out.mono ?_);rintro e w1 ⟨d,rfl,y1⟩;replace y1:Hid _:=hidS y1)
  |(go_at_call 56;(with_reducible refine (HK.out w1).mono ?_);rintro e w2 ⟨v,rfl,y2⟩;have hb:=HB.out _ _ _ _ y1.out y2;have f0:=free_of hb 0;have f3:=free_of hb 3;have g0:=cell_of hb 0 _ rfl;have g3:=cell_of hb 3 _ rfl;have l2:=lt_of_block hb;clear hb;have h57:=FIN.out w1 w2 d v y1.out y2;clear y2)
  |(go_at_call 57;(with_reducible refine h57.mono ?_);rintro e w3 ⟨rfl,y3⟩;replace y3:Hid _:=hidS y3))
 rw [HZ.out]
 exact ⟨_,d,v,rfl,y3.out⟩
def sm0:Nat:=4158377867
abbrev dkU:Dk:=dk3 10000 M2 T0 C0
abbrev ixU:Ix:=ix1 1 sm0 g0
theorem sm0_lt:sm0<4294967296:=by decide
theorem upd_0 {B W0 W:World} {K:Nat→Prop} {d q p:Nat} (tab:∀ W,Turned (fun _=>False) B W→Ch.Tab W∧Ch.Errs W) (h:Sc B W0 W K d q p (dk1 10000 M2) sB0 noIx) :
  Calls Tryz.prog 18 #[pt p,.iface 34 (pt q),.agg #[.int .i64 3,.int .i64 10,.int .i64 9,.int .u32 0]] W fun e w'=>e = .returned (.int .i64 0)∧Sc B W0 w' K d q p dkU sB0 ixU∧(encE g0).2=0:=by
 refine (sc_update tab h (by decide) (by decide) (by rw [M2_size];decide)).mono fun e w' ⟨a,T,C,sm,h1,h2,h3,h4,h5,h6,h7,h8⟩=>?_
 rw [g0_is]at h1 h6 h8
 rw [enc0 h6]at h1
 have e1:T=T0:=h1
 subst e1
 rw [T0_sum]at h3
 subst h3
 have e2:C=C0:=h2.trans (encC0L h7)
 subst e2
 exact ⟨a,h8,h6⟩
theorem few_any {B W:World} {O:Nat→Prop} {d q p:Nat} (n:Int) (h:PwAt B W O d q p dkU sB0 ixU) (he:(encE g0).2=0) (tab:∀ W,Turned (fun _=>False) B W→Ch.Tab W∧Ch.Errs W) :
  Calls Tryz.prog 13 #[pt d,.int .i64 n] W (XfPost W d sm0 n):=by
 obtain ⟨S,rs,rx,h,ho⟩:=h
 have q:Hid (∀ W,Calls Tryz.prog 129 #[.string T0] W fun e w'=>Turned (fun _=>False) W w'∧∃ a c,e = .returned (.tuple #[.agg #[.int .i64 0,.int .i64 3,.int .i64 10,.int .i64 9,.int .u32 0,.slice a 1 c],.int .i64 0])∧RwIs w' (fun b=>W.heap.size≤b) a c g0.rows):=fun W=>dec0_any he W
 exact xopen_one (G:=g0B) h.disk rfl (fun W t=>(tab W (h.tw.trans t fun _ _ z=>z)).1) (by kernel_rfl) rfl (by decide) T0_sum sm0_lt rfl (by decide) dec0C q
theorem few_len {W:World} {rx:Nat→Nat} {p d:Nat} {lv gv:Value} {n:Int} (h:IxAt W rx p (pt d) lv gv (ixF n sm0)):Calls Tryz.prog 15 #[pt p] W fun e w'=>e = .returned (.int .i64 (if 1≤n then 1 else 0))∧Turned (fun _=>False) W w':=by
 refine (xlen_any h (ixF_ok sm0_lt)).mono fun e w' ⟨a,b⟩=>⟨?_,b⟩
 rw [a]
 unfold ixF
 split <;> rfl
theorem ready_less {B W:World} {O:Nat→Prop} {d q p q2:Nat} {rs:Nat→Nat} {dv tv cv:Value} (h:PwAt B W O d q p dkU sB0 ixU) (hs:StAt 140 W rs q2 dv tv cv noSt):∀ W',Turned (fun _=>False) W W'→Calls Tryz.prog 61 #[pt p,.iface 34 (pt q2),stgv usualG] W' fun e w'=>e = .returned (.int .i64 1)∧Turned (fun _=>False) W' w':=fun W' t=>by
 obtain ⟨S,rs',rx,h,ho⟩:=h
 obtain ⟨lv,gv,h2⟩:=h.ix
 have:=xready_any (h2.turned t fun _ _ z=>z) h.iok (hs.turned t fun _ _ z=>z) usualG
 have e:readyE ixU noSt usualG=1:=by unfold readyE;rw [if_pos (.inr (by decide))]
 rw [e]at this
 exact this
abbrev FF:Nat→Prop:=fun _=>False
set_option maxHeartbeats 8000000 in
theorem accelnone_any (n:Int) (path:ByteArray) (g:Stg) (hsd:g.seed<4294967296) (w:World) (tab:∀ W,Turned (fun _=>False) w W→Ch.Tab W∧Ch.Errs W):Calls Tryz.prog 3 #[.int .i64 n,.string path,stgv g] w fun e w'=>e = .returned (.bool true)∧Turned (fun _=>False) w w':=by
 obtain ⟨V,hV⟩:∃ V,V=w.alloc (.cells #[.int .i64 g.h,.int .i64 g.p,.int .i64 g.m,.int .u32 (g.seed:Nat)] 24):=⟨_,rfl⟩
 have HVV:Hid (V=w.alloc (.cells #[.int .i64 g.h,.int .i64 g.p,.int .i64 g.m,.int .u32 (g.seed:Nat)] 24)):=hV
 obtain ⟨tV,xV⟩:=one_box (w:=w) (.cells #[.int .i64 g.h,.int .i64 g.p,.int .i64 g.m,.int .u32 (g.seed:Nat)] 24)
 rw [←hV]at tV xV
 have SX:Hid (∀ W,Turned (fun _=>False) V W→W.cell? ⟨w.heap.size,0,none⟩=some (.int .i64 g.h)∧W.cell? ⟨w.heap.size,1,none⟩=some (.int .i64 g.p)∧W.cell? ⟨w.heap.size,2,none⟩=some (.int .i64 g.m)∧W.cell? ⟨w.heap.size,3,none⟩=some (.int .u32 (g.seed:Nat))):=fun W t=>by
  have h:=boxed xV t id
  exact ⟨cell_of h 0 _ rfl,cell_of h 1 _ rfl,cell_of h 2 _ rfl,cell_of h 3 _ rfl⟩
 have H12:Hid (Calls Tryz.prog 12 #[] V fun e w'=>e = .returned (.bool true)∧Turned (fun _=>False) V w'):=hidS (indexes_any V fun W t=>tab W (tV.trans t fun _ _ z=>z))
 have H13:Hid (∀ W,Calls Tryz.prog 13 #[.pointer none,.int .i64 n] W fun e w'=>e = .returned (.tuple #[.pointer none,.int .i64 1])∧Turned (fun _=>False) W w'):=fun W=>xopen_null n W
 have H14:Hid (∀ W,Calls Tryz.prog 14 #[.int .i64 10000] W fun e w'=>∃ r d v q p a b,e = .returned (.tuple #[pt r,.bool true])∧w'.heap[r]? = some (.cells #[pt d,pt q,pt p,pt v,pt a,pt b] 39)∧Sc W w' w' (fun b=>b=r) d q p (dk1 10000 emp) noSt noIx):=fun W=>(begun17_any 10000 (by decide) W).mono fun e w' ⟨r,d,v,h1,q,p,a,b,h2,h3⟩=>⟨r,d,v,q,p,a,b,h1,h2,h3⟩
 have H15:Hid (∀ W,Calls Tryz.prog 15 #[.pointer none] W fun e w'=>e = .returned (.int .i64 0)∧W=w'):=fun W=>xlen_nil W
 have H16:Hid (∀ W,Calls Tryz.prog 16 #[.pointer none] W fun e w'=>e = .returned (.slice none 0 0)∧Turned (fun _=>False) W w'):=fun W=>xlayers_nil W
 have H17:Hid (∀ W,Calls Tryz.prog 17 #[.pointer none,.int .i64 n,.string path] W fun e w'=>e = .returned (.bool true)∧Turned (fun _=>False) W w'):=fun W=>xmay_nil n path W
 have H18:Hid (∀ W src,Calls Tryz.prog 18 #[.pointer none,src,.agg #[.int .i64 g.h,.int .i64 g.p,.int .i64 g.m,.int .u32 (g.seed:Nat)]] W fun e w'=>e = .returned (.int .i64 1)∧Turned (fun _=>False) W w'):=fun W src=>xupdate_refused (g:=g) fun W2 t=>xready_nilx src g W2
 have H19:Hid (∀ W src,Calls Tryz.prog 19 #[.pointer none,src,.agg #[.int .i64 g.h,.int .i64 g.p,.int .i64 g.m,.int .u32 (g.seed:Nat)]] W fun e w'=>e = .returned (.int .i64 1)∧Turned (fun _=>False) W w'):=fun W src=>xcompact_refused (g:=g) fun W2 t=>xready_nilx src g W2
 have H18s:Hid (∀ W p,Calls Tryz.prog 18 #[pt p,.nilIface,.agg #[.int .i64 g.h,.int .i64 g.p,.int .i64 g.m,.int .u32 (g.seed:Nat)]] W fun e w'=>e = .returned (.int .i64 1)∧Turned (fun _=>False) W w'):=fun W p=>xupdate_refused (g:=g) fun W2 t=>xready_nils p g W2
 have H19s:Hid (∀ W p,Calls Tryz.prog 19 #[pt p,.nilIface,.agg #[.int .i64 g.h,.int .i64 g.p,.int .i64 g.m,.int .u32 (g.seed:Nat)]] W fun e w'=>e = .returned (.int .i64 1)∧Turned (fun _=>False) W w'):=fun W p=>xcompact_refused (g:=g) fun W2 t=>xready_nils p g W2
 have H20:Hid (∀ W,Calls Tryz.prog 20 #[.pointer none,.int .i64 n] W fun e w'=>∃ a cap,e = .returned (.tuple #[.agg #[.slice a 0 cap,.int .i64 0,.int .i64 0,.int .i64 0,.string ⟨#[]⟩],.bool false])∧Turned (fun _=>False) W w'):=fun W=>xrow_nil n W
 have H21:Hid (∀ w0 W0 W K d q p,Sc w0 W0 W K d q p (dk1 10000 emp) noSt noIx→Calls Tryz.prog 21 #[pt q,.slice none 0 0] W fun e w'=>e = .returned (.tuple #[.int .i64 0,.int .i64 0])∧Sc w0 W0 w' K d q p (dk1 10000 M1) sA0 noIx):=fun w0 W0 W K d q p h=>sc_tree0 (by decide) h
 have H22:Hid (∀ w0 W0 W K d q p,Sc w0 W0 W K d q p (dk1 10000 M1) sA0 noIx→Calls Tryz.prog 22 #[pt q,.agg #[.slice none 0 0,.int .i64 0]] W fun e w'=>e = .returned (.tuple #[.int .i64 0,.int .i64 0])∧Sc w0 W0 w' K d q p (dk1 10000 M2) sB0 noIx):=fun w0 W0 W K d q p h=>sc_c00 (by decide) h
 have H23:Hid (∀ W,Calls Tryz.prog 23 #[] W fun e w'=>e = .returned (.agg #[.int .i64 3,.int .i64 10,.int .i64 9,.int .u32 0])∧Turned (fun _=>False) W w'):=fun W=>usual23_any W
 have HUP:Hid (∀ w0 W0 W K d q p,Turned (fun _=>False) w w0→Sc w0 W0 W K d q p (dk1 10000 M2) sB0 noIx→Calls Tryz.prog 18 #[pt p,.iface 34 (pt q),.agg #[.int .i64 3,.int .i64 10,.int .i64 9,.int .u32 0]] W fun e w'=>e = .returned (.int .i64 0)∧Sc w0 W0 w' K d q p dkU sB0 ixU∧(encE g0).2=0):=fun w0 W0 W K d q p t h=>upd_0 (fun W2 t2=>tab W2 (t.trans t2 fun _ _ z=>z)) h
 have H24:Hid (∀ W,Calls Tryz.prog 24 #[.int .i64 1000] W fun e w'=>∃ d,e = .returned (.tuple #[pt d,.int .i64 0])∧A1 W w' d 1000):=fun W=>st_new 1000 (by decide) W
 have H25:Hid (∀ W w1 d,A1 W w1 d 1000→Calls Tryz.prog 25 #[pt d] w1 fun e w'=>∃ q,e = .returned (.tuple #[pt q,.int .i64 0])∧Turned (fun _=>False) W w'∧∃ rs dv tv cv,StAt 140 w' rs q dv tv cv noSt):=fun W w1 d h=>(st_open (by decide) h).mono fun e w' ⟨q,h1,S,rs,tv,cv,h2,h3,h4,h5,h6⟩=>⟨q,h1,h6,rs,_,tv,cv,h4⟩
 have HFW:Hid (∀ w0 W0 W K d q p,Turned (fun _=>False) w w0→Sc w0 W0 W K d q p dkU sB0 ixU→(encE g0).2=0→Calls Tryz.prog 13 #[pt d,.int .i64 n] W fun e w'=>∃ p2,e = .returned (.tuple #[pt p2,.int .i64 0])∧Turned (fun _=>False) W w'∧∃ rx lv gv,IxAt w' rx p2 (pt d) lv gv (ixF n sm0)):=fun w0 W0 W K d q p t h he=>by
  obtain ⟨O,h1⟩:=h.pw
  exact (few_any n h1 he fun W2 t2=>tab W2 (t.trans t2 fun _ _ z=>z)).mono fun e w' ⟨p2,rx,lv,gv,k1,k2,k3,k4⟩=>⟨p2,k1,k4,rx,lv,gv,k2⟩
 have HFL:Hid (∀ W d p2,(∃ rx lv gv,IxAt W rx p2 (pt d) lv gv (ixF n sm0))→∀ W2,Turned (fun _=>False) W W2→Calls Tryz.prog 15 #[pt p2] W2 fun e w'=>e = .returned (.int .i64 (if 1≤n then 1 else 0))∧Turned (fun _=>False) W w'):=fun W d p2 ⟨rx,lv,gv,h⟩ W2 t=>(few_len (h.turned t fun _ _ z=>z)).mono fun e w' ⟨a,b⟩=>⟨a,t.trans b fun _ _ z=>z⟩
 have HLS:Hid (∀ w0 W0 W K d q p q2,Sc w0 W0 W K d q p dkU sB0 ixU→(∃ rs dv tv cv,StAt 140 W rs q2 dv tv cv noSt)→∀ W2,Turned (fun _=>False) W W2→(Calls Tryz.prog 18 #[pt p,.iface 34 (pt q2),.agg #[.int .i64 3,.int .i64 10,.int .i64 9,.int .u32 0]] W2 fun e w'=>e = .returned (.int .i64 1)∧Turned (fun _=>False) W w')∧(Calls Tryz.prog 19 #[pt p,.iface 34 (pt q2),.agg #[.int .i64 3,.int .i64 10,.int .i64 9,.int .u32 0]] W2 fun e w'=>e = .returned (.int .i64 1)∧Turned (fun _=>False) W w')∧(Calls Tryz.prog 15 #[pt p] W2 fun e w'=>e = .returned (.int .i64 1)∧Turned (fun _=>False) W w')):=fun w0 W0 W K d q p q2 h ⟨rs,dv,tv,cv,hs⟩ W2 t=>by
  obtain ⟨O,h1⟩:=h.pw
  have r:=ready_less (h1.still t) (hs.turned t fun _ _ z=>z)
  refine ⟨(xupdate_refused (g:=usualG) r).mono fun e w' ⟨a,b⟩=>⟨a,t.trans b fun _ _ z=>z⟩,(xcompact_refused (g:=usualG) r).mono fun e w' ⟨a,b⟩=>⟨a,t.trans b fun _ _ z=>z⟩,(pwi_len (h1.still t)).mono fun e w' ⟨a,b⟩=>⟨?_,t.trans b fun _ _ z=>z⟩⟩
  rw [a];rfl
 have RB:Hid (∀ w0 W0 W r d q p v a b D s x,Sc w0 W0 W (fun b=>b=r) d q p D s x→W0.heap[r]? = some (.cells #[pt d,pt q,pt p,pt v,pt a,pt b] 39)→W.cell? ⟨r,0,none⟩=some (pt d)∧W.cell? ⟨r,1,none⟩=some (pt q)∧W.cell? ⟨r,2,none⟩=some (pt p)∧r<W.heap.size):=fun w0 W0 W r d q p v a b D s x h hb=>by
  have:=h.blk hb rfl
  exact ⟨cell_of this 0 _ rfl,cell_of this 1 _ rfl,cell_of this 2 _ rfl,lt_of_block this⟩
 have TV:Hid (Turned (fun _=>False) w V):=tV
 clear hV tV xV tab hsd
 go_enter Tryz.func3,Tryz.ntmps3
 go_wp2_with fail
 rw [←HVV.out]
 go_wp2_with (first
  |(go_at_call 12;(with_reducible refine H12.out.mono ?_);rintro e w1 ⟨rfl,t1⟩;replace t1:Hid _:=hidS t1)
  |(go_at_call 13;(with_reducible refine (H13.out _).mono ?_);rintro e w2 ⟨rfl,t2⟩;replace t2:Hid _:=hidS (t1.out.trans t2 fun _ _ z=>z))
  |(go_at_call 14;(with_reducible refine (H14.out _).mono ?_);rintro e w3 ⟨r,d,v,q,p,a,b,rfl,hb,y3⟩;obtain ⟨-,-,k2,k3⟩:=RB.out _ _ _ _ _ _ _ _ _ _ _ _ _ y3 hb;have BK:Hid _:=hidS hb;replace y3:Hid _:=hidS y3;clear hb))
 have T2:Hid (Turned (fun _=>False) w w2):=hidS (TV.out.trans t2.out fun _ _ z=>z)
 have K3:Hid (∀ W D s x,Sc w2 w3 W (fun b=>b=r) d q p D s x→W.cell? ⟨r,0,none⟩=some (pt d)∧W.cell? ⟨r,1,none⟩=some (pt q)∧W.cell? ⟨r,2,none⟩=some (pt p)∧r<W.heap.size):=fun W D s x h=>RB.out _ _ _ _ _ _ _ _ _ _ _ _ _ h BK.out
 have SX3:Hid (∀ W,Turned (fun _=>False) w3 W→W.cell? ⟨r,1,none⟩=some (pt q)∧W.cell? ⟨r,2,none⟩=some (pt p)∧W.cell? ⟨w.heap.size,0,none⟩=some (.int .i64 g.h)∧W.cell? ⟨w.heap.size,1,none⟩=some (.int .i64 g.p)∧W.cell? ⟨w.heap.size,2,none⟩=some (.int .i64 g.m)∧W.cell? ⟨w.heap.size,3,none⟩=some (.int .u32 (g.seed:Nat))):=fun W t=>by
  obtain ⟨-,k1,k2,-⟩:=K3.out W _ _ _ (y3.out.still t)
  obtain ⟨O,h1⟩:=y3.out.pw
  obtain ⟨s0,s1,s2,s3⟩:=SX.out W ((t2.out.trans h1.new_le fun _ _ z=>z).trans t fun _ _ z=>z)
  exact ⟨k1,k2,s0,s1,s2,s3⟩
 have Q0:Hid (Turned (fun _=>False) w3 w3.drew):=hidS (Turned.drew _ _)
 clear t1 t2 SX TV H12 H14 RB
 go_region_held3 (fun W=>W.cell? ⟨r,1,none⟩=some (pt q)∧W.cell? ⟨r,2,none⟩=some (pt p)∧W.cell? ⟨w.heap.size,0,none⟩=some (.int .i64 g.h)∧W.cell? ⟨w.heap.size,1,none⟩=some (.int .i64 g.p)∧W.cell? ⟨w.heap.size,2,none⟩=some (.int .i64 g.m)∧W.cell? ⟨w.heap.size,3,none⟩=some (.int .u32 (g.seed:Nat)))
  (first|(exact SX3.out _ Q0.out)|go_keep)
  (first
   |(go_at_call 15;(with_reducible refine (H15.out _).mono ?_);rintro e wx ⟨rfl,rfl⟩)
   |(go_at_call 16;(with_reducible refine (H16.out _).mono ?_);rintro e wa ⟨rfl,qx⟩;have Q1:=Q0.out.trans qx (fun _ _ z=>z);clear Q0 qx;have Q0:Hid _:=hidS Q1;clear Q1)
   |(go_at_call 17;(with_reducible refine (H17.out _).mono ?_);rintro e wb ⟨rfl,qx⟩;have Q1:=Q0.out.trans qx (fun _ _ z=>z);clear Q0 qx;have Q0:Hid _:=hidS Q1;clear Q1)
   |(go_at_call 18;(with_reducible refine (H18.out _ _).mono ?_);rintro e wc ⟨rfl,qx⟩;have Q1:=Q0.out.trans qx (fun _ _ z=>z);clear Q0 qx;have Q0:Hid _:=hidS Q1;clear Q1)
   |(go_at_call 19;(with_reducible refine (H19.out _ _).mono ?_);rintro e wd ⟨rfl,qx⟩;have Q1:=Q0.out.trans qx (fun _ _ z=>z);clear Q0 qx;have Q0:Hid _:=hidS Q1;clear Q1)
   |(go_at_call 18;(with_reducible refine (H18s.out _ _).mono ?_);rintro e we ⟨rfl,qx⟩;have Q1:=Q0.out.trans qx (fun _ _ z=>z);clear Q0 qx;have Q0:Hid _:=hidS Q1;clear Q1)
   |(go_at_call 19;(with_reducible refine (H19s.out _ _).mono ?_);rintro e wf ⟨rfl,qx⟩;have Q1:=Q0.out.trans qx (fun _ _ z=>z);clear Q0 qx;have Q0:Hid _:=hidS Q1;clear Q1))
 have Y3:Hid (Sc w2 w3 wf (fun b=>b=r) d q p (dk1 10000 emp) noSt noIx):=hidS (y3.out.still Q0.out)
 clear y3 SX3 Q0 H16 H17 H18 H19 H18s H19s H13 H15 k2 k3
 go_wp2_with (first
  |(go_at_call 20;(with_reducible refine (H20.out _).mono ?_);rintro e w4 ⟨a4,c4,rfl,t4⟩;have y4:=(Y3.out.still t4).still (Turned.alloc (fun _=>False) w4 (.cells #[.slice a4 0 c4,.int .i64 0,.int .i64 0,.int .i64 0,.string ⟨#[]⟩] 48));obtain ⟨-,k1,-,k3⟩:=K3.out _ _ _ _ y4;replace y4:Hid _:=hidS y4;clear t4)
  |(go_at_call 21;(with_reducible refine (H21.out _ _ _ _ d q p y4.out).mono ?_);rintro e w5 ⟨rfl,y5⟩;clear k1 k3;obtain ⟨-,k1,-,k3⟩:=K3.out _ _ _ _ y5;replace y5:Hid _:=hidS y5)
  |(go_at_call 22;(with_reducible refine (H22.out _ _ _ _ d q p y5.out).mono ?_);rintro e w6 ⟨rfl,y6⟩;clear k1 k3;replace y6:Hid _:=hidS y6))
 have Y6:Hid (Sc w2 w3 w6.drew (fun b=>b=r) d q p (dk1 10000 M2) sB0 noIx):=hidS (y6.out.still (Turned.drew _ _))
 have K12:Hid (∀ W D s x,Sc w2 w3 W (fun b=>b=r) d q p D s x→W.cell? ⟨r,1,none⟩=some (pt q)∧W.cell? ⟨r,2,none⟩=some (pt p)):=fun W D s x h=>⟨(K3.out W D s x h).2.1,(K3.out W D s x h).2.2.1⟩
 clear y6 y5 y4 Y3 H20 H21 H22
 go_region_held3 (fun W=>W.cell? ⟨r,1,none⟩=some (pt q)∧W.cell? ⟨r,2,none⟩=some (pt p))
  (first|(exact K12.out _ _ _ _ Y6.out)|(exact K12.out _ _ _ _ y7.out)|(exact K12.out _ _ _ _ y8.1)|go_keep)
  (first
   |(go_at_call 23;(with_reducible refine (H23.out _).mono ?_);rintro e w7 ⟨rfl,t7⟩;have y7:Hid _:=hidS (Y6.out.still t7);clear t7)
   |(go_at_call 18;(with_reducible refine (HUP.out _ _ _ _ d q p T2.out y7.out).mono ?_);rintro e w8 ⟨rfl,y8⟩))
 have Y8:Hid _:=hidS y8
 clear y8 y7 Y6 HUP
 go_wp2_with (first
  |(go_at_call 24;(with_reducible refine (H24.out _).mono ?_);rintro e w9 ⟨d2,rfl,y9⟩;replace y9:Hid _:=hidS y9)
  |(go_at_call 25;(with_reducible refine (H25.out _ _ d2 y9.out).mono ?_);rintro e w10 ⟨q2,rfl,t10,s10⟩;have y10:=Y8.out.1.still t10;obtain ⟨k0,-,-,k3⟩:=K3.out _ _ _ _ y10;have Y10:Hid _:=hidS y10;have S10:Hid _:=hidS s10;clear y9 y10 s10 t10)
  |(go_at_call 13;(with_reducible refine (HFW.out _ _ _ _ d q p T2.out Y10.out Y8.out.2).mono ?_);rintro e w11 ⟨p2,rfl,t11,x11⟩;have HL:=HFL.out w11 d p2 x11;have L11:Hid _:=hidS HL;clear HL HFL x11;have Y11:Hid _:=hidS (Y10.out.still t11);obtain ⟨rs,dv,tv,cv,hs⟩:=S10.out;have S11:Hid (∃ rs dv tv cv,StAt 140 w11 rs q2 dv tv cv noSt):=hidS ⟨rs,dv,tv,cv,hs.turned t11 fun _ _ z=>z⟩;clear hs;clear S10 Y10 k0 k3 t11 rs dv tv cv;have Q0:Hid (Turned (fun _=>False) w11 w11):=hidS (Turned.refl _ _);rcases Classical.em (1≤n) with hn|hn)
  |(go_at_call 15;(with_reducible refine (L11.out _ Q0.out).mono ?_);rintro e wx ⟨rfl,qx⟩;clear Q0;have Q0:Hid _:=hidS qx;clear qx))
 all_goals
  have S23:Hid (∀ W,Turned (fun _=>False) w11 W→W.cell? ⟨r,2,none⟩=some (pt p)):=hidS fun W t=>(K3.out W _ _ _ (Y11.out.still t)).2.2.1
  have L23:Hid _:=hidS (HLS.out _ _ _ _ d q p q2 Y11.out S11.out)
  have FIN:Hid (∀ W,Turned (fun _=>False) w11 W→Turned (fun _=>False) w W):=hidS fun W t=>by
   obtain ⟨O,h1⟩:=Y11.out.pw
   exact (T2.out.trans h1.new_le fun _ _ z=>z).trans t fun _ _ z=>z
  have Q1:=Q0.out.draw
  clear Q0
  have Q0:Hid _:=hidS Q1
  clear Q1 Y11 S11 L11 Y8 K12 T2 HFW HLS BK
  go_region_held3 (fun W=>W.cell? ⟨r,2,none⟩=some (pt p))
   (first|(exact S23.out _ Q0.out)|go_keep)
   (first
    |(go_at_call 23;(with_reducible refine (H23.out _).mono ?_);rintro e wa ⟨rfl,qx⟩;have Q1:=Q0.out.trans qx (fun _ _ z=>z);clear Q0 qx;have Q0:Hid _:=hidS Q1;clear Q1)
    |(go_at_call 18;(with_reducible refine (L23.out _ Q0.out).1.mono ?_);rintro e wb ⟨rfl,qx⟩;clear Q0;have Q0:Hid _:=hidS qx;clear qx)
    |(go_at_call 19;(with_reducible refine (L23.out _ Q0.out).2.1.mono ?_);rintro e wc ⟨rfl,qx⟩;clear Q0;have Q0:Hid _:=hidS qx;clear qx)
    |(go_at_call 15;(with_reducible refine (L23.out _ Q0.out).2.2.mono ?_);rintro e wd ⟨rfl,qx⟩;clear Q0;have Q0:Hid _:=hidS qx;clear qx))
  go_wp2
  go_ret
  exact ⟨rfl,FIN.out _ Q0.out⟩
end Go.Proofs.YtofcogekgcgjhaaGreatDoor
