/- Packed. -/
import Derived.Test.YtofcogekgcgjhaaGreatDoorZzav
import Derived.Test.YtofcogekgcgjhaaGreatDoorZzaj
import Derived.Deep.RegionHeld3
set_option linter.unusedVariables false
set_option linter.unusedSimpArgs false
set_option maxRecDepth 100000
namespace Go.Proofs.YtofcogekgcgjhaaGreatDoor
open Go.RowKit Go.Mine Go.Mine.Ac
theorem findN_skip {s:ByteArray}:∀ {l:Nms} (i:Nat),(∀ j x,j<i→l[j]? = some x→x.1≠s)→findN l s=findN (l.drop i) s
  | [],i,_=>by simp
  |x :: l,0,_=>by simp
  |x :: l,i+1,h=>by
    rw [List.drop_succ_cons,findN,if_neg (h 0 x (by omega) rfl)]
    exact findN_skip i fun j y hj hy=>h (j+1) y (by omega) (by simpa using hy)
theorem findN_here {s:ByteArray} {l:Nms} {i:Nat} {x:ByteArray×Nat} (h:∀ j x,j<i→l[j]? = some x→x.1≠s) (hx:l[i]? = some x) (hs:x.1=s):findN l s=some x.2:=by
  rw [findN_skip i h]
  have:l.drop i=x :: l.drop (i+1):=by
    obtain ⟨hl,e⟩:=List.getElem?_eq_some_iff.1 hx
    rw [←e]
    exact List.drop_eq_getElem_cons hl
  rw [this,findN,if_pos hs]
theorem findN_all {s:ByteArray} {l:Nms} {i:Nat} (h:∀ j x,j<i→l[j]? = some x→x.1≠s) (hi:l.length≤i):findN l s=none:=by
  rw [findN_skip i h,List.drop_eq_nil_of_le hi]
  rfl
theorem sb_eq {a b:ByteArray} (h:a=b):(a.toList == b.toList)=true:=by rw [h];simp
theorem sb_ne {a b:ByteArray} (h:a≠b):(a.toList == b.toList)=false:=by
  rw [ByteArray.toList_eq,ByteArray.toList_eq]
  simp only [beq_eq_false_iff_ne,ne_eq]
  intro q
  exact h (ByteArray.ext (Array.toList_inj.1 q))
def KfRel (w:World) (l:Nms) (s:ByteArray) (g:Nat) (iv:Value) (wr:World):Prop:=
  ∃ i:Nat,iv = .int .i64 (i:Nat)∧i+g=l.length∧(∀ j x,j<i→l[j]? = some x→x.1≠s)∧Turned (fun _=>False) w wr
def KfPost (w:World) (l:Nms) (s:ByteArray) (e:Ending) (w' : World):Prop:=
  Turned (fun _=>False) w w'∧((findN l s=none∧e = .returned (.int .i64 (-1)))∨∃ (i:Nat) (k:Nat),l[i]? = some (s,k)∧findN l s=some k∧e = .returned (.int .i64 (i:Nat)))
theorem kfind_any {S:Nat→Prop} {v:Value} {l:Nms} (s:ByteArray) (w:World) (h:Sl w S 242 2 v (ncellsR l) l.length) (hl:l.length≤100000) :
    Calls Tryz.prog 243 #[v,.string s] w (KfPost w l s):=by
  obtain ⟨D,hD⟩:∃ D,D=KfPost w l s:=⟨_,rfl⟩
  have HD:Hid (D=KfPost w l s):=hD
  rw [←hD]
  obtain ⟨n,hn⟩:∃ n,n=l.length:=⟨_,rfl⟩
  have HN:Hid (n=l.length∧n≤100000):=hidS ⟨hn,by omega⟩
  have HS:Hid (Sl w S 242 2 v (ncellsR l) l.length):=h
  have B0:Hid (KfRel w l s n (.int .i64 0) w):=⟨0,rfl,by omega,fun j x hj=>absurd hj (Nat.not_lt_zero _),Turned.refl _ _⟩
  obtain ⟨a,cap,rfl,-,-⟩:=h.value
  rw [←hn]
  clear hD hn h hl
  go_enter Tryz.func243,Tryz.ntmps243
  go_wp2
  go_loopg [5] n (fun g v wr=>KfRel w l s g v wr)
  case atStart=>exact B0.out
  case round=>
    obtain ⟨i,rfl,hig,hno,ht⟩:=hrel
    have G:Hid (i+gk=l.length∧(∀ j x,j<i→l[j]? = some x→x.1≠s)):=⟨hig,hno⟩
    have TT:Hid (Turned (fun _=>False) w wr):=ht
    clear hig hno B0 ht
    by_cases hlt:i<n
    · obtain ⟨x, hx⟩ : ∃ x, l[i]? = some x := ⟨_, List.getElem?_eq_getElem (by have := HN.out.1; omega)⟩
      have hsl:=HS.out.turned TT.out fun _ _ q=>q
      obtain ⟨g,off,cap2,hv,-,-,-,hcell,-,-⟩:=hsl.opens (by have:=HN.out.1;omega)
      simp only [Value.slice.injEq]at hv
      obtain ⟨rfl,-,rfl⟩:=hv
      have c0:wr.cell? ⟨g,off+i * 2,none⟩=some (.string x.1):=by
        rw [hcell _ (by have:=HN.out.1;omega),Nat.mul_comm]
        exact (ncellsR_get hx).1
      have HX:Hid (l[i]? = some x):=hx
      have HLT:Hid (i<n):=hlt
      have hd1:decide ((i:Int)<(n:Int))=true:=by simp;omega
      have hd2:decide (i<n)=true:=by simp;omega
      have HW:Hid (wrap64 ((i:Int)+1)=((i+1:Nat):Int)):=hidS (by have:=HLT.out;have:=HN.out.2;simp [wrap64];omega)
      clear hx hcell hsl
      by_cases hs:x.1=s
      · have HE : Hid (x.1 = s) := hs
        have hb:=sb_eq hs
        clear hs
        go_wp2
        rw [HD.out]
        have e:x=(s,x.2):=by rw [←HE.out]
        exact ⟨TT.out,.inr ⟨i,x.2,by rw [HX.out,←e],findN_here G.out.2 HX.out HE.out,rfl⟩⟩
      · have HE : Hid (x.1 ≠ s) := hs
        have hb:=sb_ne hs
        clear hs
        go_wp2
        go_roundg (gk - 1)
        case measure=>have:=G.out;have:=HLT.out;have:=HN.out;omega
        case rel=>exact ⟨i+1,by rw [HW.out],by have:=G.out;have:=HLT.out;have:=HN.out;omega,fun j y hj hy=>by
          by_cases q:j=i
          · subst q
            rw [HX.out]at hy
            rw [←Option.some.inj hy];exact HE.out
          · exact G.out.2 j y (by omega) hy,TT.out⟩
    · have hd1 : decide ((i : Int) < (n : Int)) = false := by simp; omega
      have hd2:decide (i<n)=false:=by simp;omega
      have HLT:Hid (n≤i):=hidS (by omega)
      clear hlt
      go_wp2
      rw [HD.out]
      exact ⟨TT.out,.inl ⟨findN_all G.out.2 (by have:=HN.out;have:=HLT.out;omega),rfl⟩⟩
def KgRel (w:World) (s:ByteArray) (g:Nat) (iv:Value) (wr:World):Prop:=
  ∃ i:Nat,iv = .int .i64 (i:Nat)∧i+g=s.size∧(∀ (j:Nat) c,j<i→s.data.toList[j]? = some c→badC c=false)∧wr=w
def KgPost (w:World) (s:ByteArray) (e:Ending) (w' : World):Prop:=e = .returned (.bool (goodName s))∧w=w'
theorem sbyte (s:ByteArray) (j:Nat) (h:j<s.size):s.data.toList[j]? = some s[j]:=by
  rw [Array.getElem?_toList];exact Array.getElem?_eq_getElem h
theorem kgood_any (s:ByteArray) (w:World):Calls Tryz.prog 264 #[.string s] w (KgPost w s):=by
  obtain ⟨D,hD⟩:∃ D,D=KgPost w s:=⟨_,rfl⟩
  have HD:Hid (D=KgPost w s):=hD
  rw [←hD]
  have HG:=goodName_all s
  replace HG:Hid (goodName s=_):=HG
  clear hD
  by_cases h0:s.size<1
  · have e1 : decide ((s.size : Int) < 1) = true := decide_eq_true (by omega)
    have e2:decide (s.size<1)=true:=decide_eq_true (by omega)
    have H0:Hid (s.size<1):=h0
    clear h0
    go_enter Tryz.func264,Tryz.ntmps264
    go_wp2
    rw [HD.out]
    exact ⟨by rw [HG.out,decide_eq_false (p:=1≤s.size) (by have h:=H0.out;omega)];simp,rfl⟩
  by_cases h32:32<s.size
  · have e1 : decide ((s.size : Int) < 1) = false := decide_eq_false (by omega)
    have e2:decide (s.size<1)=false:=decide_eq_false (by omega)
    have e3:decide ((32:Int)<(s.size:Int))=true:=decide_eq_true (by omega)
    have e4:decide (32<s.size)=true:=decide_eq_true (by omega)
    have H0:Hid (32<s.size):=h32
    clear h0 h32
    go_enter Tryz.func264,Tryz.ntmps264
    go_wp2
    rw [HD.out]
    exact ⟨by rw [HG.out,decide_eq_false (p:=s.size≤32) (by have:=H0.out;omega)];simp,rfl⟩
  have e1:decide ((s.size:Int)<1)=false:=decide_eq_false (by omega)
  have e2:decide (s.size<1)=false:=decide_eq_false (by omega)
  have e3:decide ((32:Int)<(s.size:Int))=false:=decide_eq_false (by omega)
  have e4:decide (32<s.size)=false:=decide_eq_false (by omega)
  have H0:Hid (1≤s.size∧s.size≤32):=hidS ⟨by omega,by omega⟩
  have B0:Hid (KgRel w s s.size (.int .i64 0) w):=⟨0,rfl,by omega,fun j x hj=>absurd hj (Nat.not_lt_zero _),rfl⟩
  clear h0 h32
  go_enter Tryz.func264,Tryz.ntmps264
  go_wp2
  go_loopg [3] s.size (fun g v wr=>KgRel w s g v wr)
  case atStart=>exact B0.out
  case round=>
    obtain ⟨i,rfl,hig,hno,rfl⟩:=hrel
    have G:Hid (i+gk=s.size∧(∀ (j:Nat) c,j<i→s.data.toList[j]? = some c→badC c=false)):=⟨hig,hno⟩
    clear hig hno B0
    by_cases hlt:i<s.size
    · have hi : s[i]? = some s[i] := ByteArray.getElem?_lt' s i hlt
      have hb:=sbyte s i hlt
      have HC:Hid (s.data.toList[i]? = some s[i]):=hb
      have HLT:Hid (i<s.size):=hlt
      have hd1:decide ((i:Int)<(s.size:Int))=true:=decide_eq_true (by omega)
      have hd2:decide (i<s.size)=true:=decide_eq_true (by omega)
      have HW:Hid (wrap64 ((i:Int)+1)=((i+1:Nat):Int)):=hidS (by have h1:=HLT.out;have h2:=H0.out;simp only [wrap64];omega)
      clear hb
      have hN:=s[i].toNat_lt
      go_wp2
      all_goals first
        | (have HB : badC s[i] = true := by
             simp only [badC,UInt8.le_iff_toNat_le,Bool.not_eq_true',Bool.and_eq_false_iff,decide_eq_false_iff_not]
             have z1:(33:UInt8).toNat=33:=rfl
             have z2:(126:UInt8).toNat=126:=rfl
             omega
           rw [HD.out]
           exact ⟨by rw [HG.out];simp only [allGood];rw [show (s.data.toList.all fun c=>!badC c)=false from List.all_eq_false.2 ⟨s[i],List.mem_of_getElem? HC.out,by rw [HB];decide⟩];simp,rfl⟩)
        | (have HB : Hid (badC s[i] = false) := hidS (by
             simp only [badC,UInt8.le_iff_toNat_le,Bool.not_eq_false',Bool.and_eq_true,decide_eq_true_eq]
             have z1:(33:UInt8).toNat=33:=rfl
             have z2:(126:UInt8).toNat=126:=rfl
             omega)
           go_roundg (gk - 1)
           case measure=>have:=G.out;have:=HLT.out;omega
           case rel=>exact ⟨i+1,by rw [HW.out],by have:=G.out;have:=HLT.out;omega,fun j d hj hd=>by
             by_cases q:j=i
             · subst q
               rw [HC.out]at hd
               rw [←Option.some.inj hd];exact HB.out
             · exact G.out.2 j d (by omega) hd,rfl⟩)
    · have hd1 : decide ((i : Int) < (s.size : Int)) = false := decide_eq_false (by omega)
      have hd2:decide (i<s.size)=false:=decide_eq_false (by omega)
      have HLT:Hid (s.size≤i):=hidS (by omega)
      clear hlt
      go_wp2
      rw [HD.out]
      refine ⟨?_,rfl⟩
      rw [HG.out,decide_eq_true H0.out.1,decide_eq_true H0.out.2]
      have:allGood s.data.toList=true:=by
        unfold allGood
        rw [List.all_eq_true]
        intro c hc
        obtain ⟨j,hj⟩:=List.getElem?_of_mem hc
        have hl:=list_size s
        rw [G.out.2 j c (by have:=(List.getElem?_eq_some_iff.1 hj).1;have:=HLT.out;omega) hj]
        rfl
      rw [this];rfl
theorem FsPostC.from {w W w' : World} {rl rl' : Nat→Nat} {d n:Nat} {D' : Dk} (h:FsPostC W rl' d D' n w') (hr:∀ b,rl' b≠0→rl b≠0∨w.heap.size≤b) (ht:Turned (fun b=>rl b≠0) w W):FsPostC w rl d D' n w':=by
 obtain ⟨r2,ms',mf',pv',F',h1,h2,h3⟩:=h
 refine ⟨r2,ms',mf',pv',F',h1,fun b hb=>(h2 b hb).elim (hr b) fun q=>.inr (Nat.le_trans ht.size q),ht.comp h3 fun i hi q=>q.elim id fun q=>(hr i q).elim id fun q=>by omega⟩
theorem FsPostC.count {w w' : World} {rl:Nat→Nat} {d n:Nat} {D' : Dk} (h:FsPostC w rl d D' n w') (hd:rl d≠0) (m:Nat):FsPostC w rl d D' m (w'.setCell ⟨d,1,none⟩ (.int .i64 (m:Nat))):=by
 obtain ⟨r2,ms',mf',pv',F',h1,h2,h3⟩:=h
 have t:Turned (· = d) w' (w'.setCell ⟨d,1,none⟩ (.int .i64 (m:Nat))):=Turned.setCell (S:=(· = d)) (p:=⟨d,1,none⟩) rfl _
 have r1:=h1.r1
 have hne:∀ b,r2 b≠1→¬ b=d:=fun b hb q=>hb (q ▸ r1)
 refine ⟨r2,ms',mf',pv',F',⟨h1.r1,h1.r2,h1.r3,?_,h1.seen.congr (t.block _ h1.seen.lt (hne _ (by rw [h1.r2];decide))) fun _=>rfl,h1.safe.congr (t.block _ h1.safe.lt (hne _ (by rw [h1.r3];decide))) fun _=>rfl,
  h1.pend.turned t fun b hb=>hne b (by omega),fun k hk=>?_,fun b hb=>by rw [setCell_size];exact h1.bnd b hb,h1.bs.congr (t.block _ h1.seen.lt (hne _ (by rw [h1.r2];decide))),h1.bf.congr (t.block _ h1.safe.lt (hne _ (by rw [h1.r3];decide)))⟩,h2,h3.comp t fun i _ q=>q.elim id fun q=>q ▸ hd⟩
 ·have := Go.Mine.heap_setCell_same h1.blk (o := 1) (.int .i64 (m : Nat))
  simpa [Blk] using this
 ·obtain ⟨x, e1, e2⟩ := h1.file k hk
  exact ⟨x,e1,e2.turned t fun b hb=>hne b (by omega)⟩
theorem FsPostC.counter {w w' : World} {rl:Nat→Nat} {d n:Nat} {D' : Dk} (h:FsPostC w rl d D' n w'):w'.cell? ⟨d,1,none⟩=some (.int .i64 (n:Nat))∧w'.frozen? ⟨d,1,none⟩=false∧d<w'.heap.size:=by
 obtain ⟨r2,ms',mf',pv',F',h1,h2,h3⟩:=h
 exact ⟨cell_of h1.blk 1 _ rfl,free_of h1.blk 1,lt_of_block h1.blk⟩
set_option maxHeartbeats 1000000 in
theorem fcreate1_any {w:World} {rl:Nat→Nat} {d ms mf:Nat} {pv:Value} {F:Nat→Nat} {D:Dk} (h:FsAt w rl d ms mf pv F D) (hok:D.Ok) (hp:D.pend.length≤1000000000) (hfl:D.files.length≤1000000000) (name:ByteArray) (b0 b1:Nat) (z0:rl b0=0) (z1:rl b1=0)
  (h0:w.cell? ⟨b0,0,none⟩=some (pt d)) (h1:w.cell? ⟨b1,0,none⟩=some (.string name)) (hne:name≠emp) :
  Calls Tryz.prog 96 #[pt b0,pt b1] w fun e w'=>e = .returned (.tuple #[])∧FsPost w rl d (Dk.change { D with files:=D.files ++ [⟨emp,0⟩] } ⟨emp,name,D.files.length⟩) w':=by
 obtain ⟨n,hn⟩:∃ n,n=D.files.length:=⟨_,rfl⟩
 have hd:=h.bnd d (by rw [h.r1];decide)
 have rd:rl d≠0:=by rw [h.r1];decide
 have c1:=cell_of h.blk 1 _ rfl
 have lb0:=lt_of_cell h0
 have lb1:=lt_of_cell h1
 have HCA:Hid (∀ W,Turned (fun _=>False) w W→W.heap[w.heap.size]? = some (.cells #[.int .i64 (n:Nat),.slice none 0 0,.int .i64 0] 157) →
   Calls Tryz.prog 97 #[pt d,.agg #[.string name,.string name,pt w.heap.size]] W fun e w'=>e = .returned (.tuple #[])∧FsPostC w rl d (Dk.change { D with files:=D.files ++ [⟨emp,0⟩] } ⟨emp,name,n⟩) n w'∧w'.cell? ⟨b0,0,none⟩=some (pt d)∧w'.cell? ⟨b1,0,none⟩=some (.string name)):=hidS fun W hW hB=>by
  rw [hn]at hB
  obtain ⟨k1,k2⟩:=h.moreAt hW (f:=w.heap.size) (Nat.le_refl _) hB
  have hc:=fchange_any k1 (hok.more.seenOk) ⟨emp,name,D.files.length⟩ (fun _=>⟨⟨emp,0⟩,by simp,k2⟩) hp
  have e:(pcell (fun k=>if k=D.files.length then w.heap.size else F k) ⟨emp,name,D.files.length⟩).toArray = #[.string name,.string name,pt w.heap.size]:=by unfold pcell;simp [hne]
  rw [e]at hc
  refine hc.mono fun e w' ⟨q1,q2⟩=>⟨q1,?_,?_,?_⟩
  ·rw [hn]
   refine q2.from (fun b hb=>?_) (hW.mono fun _ _ q=>q.elim)
   by_cases q:b=w.heap.size
   ·exact .inr (by omega)
   ·exact .inl (by simpa [q] using hb)
  ·obtain ⟨r2, ms', mf', pv', F', -, -, h3⟩ := q2
   refine cell_at (cell_at h0 hW id) h3 fun q=>?_
   have:=lt_of_cell h0
   simp only [show ¬ b0=w.heap.size by omega,if_false]at q
   exact q z0
  ·obtain ⟨r2, ms', mf', pv', F', -, -, h3⟩ := q2
   refine cell_at (cell_at h1 hW id) h3 fun q=>?_
   have:=lt_of_cell h1
   simp only [show ¬ b1=w.heap.size by omega,if_false]at q
   exact q z1
 have KS:Hid (∀ W,Turned (fun _=>False) w W→W.cell? ⟨b0,0,none⟩=some (pt d)∧W.cell? ⟨b1,0,none⟩=some (.string name)∧W.cell? ⟨d,1,none⟩=some (.int .i64 (n:Nat))):=hidS fun W ht=>⟨cell_at h0 ht id,cell_at h1 ht id,cell_at (by rw [hn];exact c1) ht id⟩
 have HN:Hid (n=D.files.length):=hn
 rw [←hn]at c1
 have hw:wrap64 ((n:Int)+1)=((n+1:Nat):Int):=by simp [wrap64];omega
 have KF:Hid (∀ w2,FsPostC w rl d (Dk.change { D with files:=D.files ++ [⟨emp,0⟩] } ⟨emp,name,n⟩) n w2→FsPost w rl d (Dk.change { D with files:=D.files ++ [⟨emp,0⟩] } ⟨emp,name,D.files.length⟩) (w2.setCell ⟨d,1,none⟩ (.int .i64 ((n+1:Nat):Int)))):=hidS fun w2 hq=>by
  have:=hq.count rd (n+1)
  rw [hn]at this ⊢
  have e:(Dk.change { D with files:=D.files ++ [(⟨emp,0⟩:Fl)] } ⟨emp,name,D.files.length⟩).files.length=D.files.length+1:=by simp [Dk.change]
  unfold FsPost
  rw [e]
  exact this
 clear h hok hp hfl z0 z1 hne hn
 go_enter Tryz.func96,Tryz.ntmps96
 go_wp2
 go_region_held3 (fun W=>W.cell? ⟨b0,0,none⟩=some (pt d)∧W.cell? ⟨b1,0,none⟩=some (.string name)∧W.cell? ⟨d,1,none⟩=some (.int .i64 (n:Nat)))
  (first|(exact ⟨by assumption,by assumption,by assumption⟩)|(exact KS.out _ (by first|exact Turned.alloc _ _ _|exact (Turned.alloc _ _ _).draw|exact ((Turned.refl _ _).draw).new _|exact Turned.drew _ _))|go_keep)
  (first|(go_at_call 97;refine (HCA.out _ ?_ ?_).mono ?_;(first|exact Turned.alloc _ _ _|exact (Turned.alloc _ _ _).draw|exact ((Turned.refl _ _).draw).new _|exact (((Turned.refl _ _).draw).new _).draw);(exact heap_alloc_new _ _);rintro e w2 ⟨rfl,q1,q2,q6⟩;obtain ⟨q3,q4,q5⟩:=q1.counter;replace q1:Hid _:=hidS q1))
 go_wp2
 go_end0
 exact ⟨rfl,KF.out _ q1.out⟩
theorem RkAt.own {w w' : World} {rl:Nat→Nat} {r:Nat} {fv sv av pv:Value} {D D' : Dk} (h:RkAt w rl r fv sv av pv D) (ht:Turned (· = r) w w')
  (hb:Blk w' r #[.int .i64 (D'.quota:Nat),fv,sv,av,pv,.int .i64 (D'.falls:Nat),.bool D'.off] 200)
  (hl:D'.files=D.files) (hs:D'.seen=D.seen) (hf:D'.safe=D.safe) (hp:D'.pend=D.pend):RkAt w' rl r fv sv av pv D':=by
 have r1:=h.r1
 have hne:∀ b k,rl b=k→1<k→¬ b=r:=fun b k hb hk q=>by rw [q,r1]at hb;omega
 exact ⟨h.r1,hb,by rw [hl];exact h.files.turned ht fun b hb=>hne b _ hb (by omega),by rw [hs];exact h.seen.turned ht fun b hb=>hne b _ hb (by omega),by rw [hf];exact h.safe.turned ht fun b hb=>hne b _ hb (by omega),
  by rw [hp];exact h.pend.turned ht fun b hb=>hne b _ hb (by omega),fun b hb=>Nat.lt_of_lt_of_le (h.bnd b hb) ht.size⟩
theorem kstep_any {w:World} {rl:Nat→Nat} {r:Nat} {fv sv av pv:Value} {D:Dk} (h:RkAt w rl r fv sv av pv D) (hF:D.falls≤9223372036854775807) :
  Calls Tryz.prog 169 #[pt r] w fun e w'=>e = .returned (.int .i64 (D.step.2:Nat))∧RkAt w' rl r fv sv av pv D.step.1∧Turned (· = r) w w':=by
 have f5:=free_of h.blk 5
 have f6:=free_of h.blk 6
 have c6:=cell_of h.blk 6 _ rfl
 have c5:=cell_of h.blk 5 _ rfl
 have hlt:=lt_of_block h.blk
 by_cases h0:D.falls=0
 ·have key : Hid (D.step = (D, 0)) := hidS (by simp [Dk.step, h0])
  have H:Hid (RkAt w rl r fv sv av pv D):=h
  rw [h0]at c5
  rw [key.out]
  clear h h0
  go_enter Tryz.func169,Tryz.ntmps169
  go_wp2
  go_ret
  exact ⟨rfl,H.out,Turned.refl _ _⟩
 by_cases h1:D.falls=1
 ·have key : Hid (D.step = ({ D with falls := 0, off := true }, 8)) := hidS (by simp [Dk.step, h1])
  have K2:Hid (RkAt ((w.setCell ⟨r,5,none⟩ (.int .i64 0)).setCell ⟨r,6,none⟩ (.bool true)) rl r fv sv av pv { D with falls:=0,off:=true }∧Turned (· = r) w ((w.setCell ⟨r,5,none⟩ (.int .i64 0)).setCell ⟨r,6,none⟩ (.bool true))):=hidS (by
   have t:Turned (· = r) w ((w.setCell ⟨r,5,none⟩ (.int .i64 0)).setCell ⟨r,6,none⟩ (.bool true)):=((Turned.refl (· = r) w).set (p:=⟨r,5,none⟩) rfl _).set (p:=⟨r,6,none⟩) rfl _
   refine ⟨h.own t ?_ rfl rfl rfl rfl,t⟩
   have a1:=Go.Mine.heap_setCell_same h.blk (o:=5) (.int .i64 0)
   have a2:=Go.Mine.heap_setCell_same a1 (o:=6) (.bool true)
   simpa [Blk] using a2)
  rw [h1]at c5
  rw [key.out]
  clear h h0 h1
  go_enter Tryz.func169,Tryz.ntmps169
  go_wp2
  go_ret
  exact ⟨rfl,K2.out⟩
 ·have key : Hid (D.step = ({ D with falls := D.falls - 1 }, 0)) := hidS (by simp [Dk.step, h0, h1])
  obtain ⟨m,hm⟩:∃ m,m=D.falls - 1:=⟨_,rfl⟩
  have K2:Hid (RkAt (w.setCell ⟨r,5,none⟩ (.int .i64 (m:Nat))) rl r fv sv av pv { D with falls:=D.falls - 1 }∧Turned (· = r) w (w.setCell ⟨r,5,none⟩ (.int .i64 (m:Nat)))):=hidS (by
   have t:Turned (· = r) w (w.setCell ⟨r,5,none⟩ (.int .i64 (m:Nat))):=(Turned.refl (· = r) w).set (p:=⟨r,5,none⟩) rfl _
   refine ⟨h.own t ?_ rfl rfl rfl rfl,t⟩
   have a1:=Go.Mine.heap_setCell_same h.blk (o:=5) (.int .i64 (m:Nat))
   rw [←hm]
   simpa [Blk] using a1)
  have e1:decide ((0:Int)<(D.falls:Int))=true:=by simp;omega
  have e2:decide (0<D.falls)=true:=by simp;omega
  have hw:wrap64 ((D.falls:Int) - 1)=((m:Nat):Int):=by simp [wrap64];omega
  have e3:((m:Int) == 0)=false:=by simp;omega
  have e4:(m == 0)=false:=by simp;omega
  rw [key.out]
  generalize D.falls=q at *
  clear h h0 h1 hm hF
  go_enter Tryz.func169,Tryz.ntmps169
  go_wp2
  go_ret
  exact ⟨rfl,K2.out⟩
def kfileV:Except Nat Nat→Value
 | .error k=>.tuple #[.int .i64 0,.int .i64 (k:Nat)]
 | .ok k=>.tuple #[.int .i64 (k:Nat),.int .i64 0]
theorem kfile_any {w:World} {rl:Nat→Nat} {r:Nat} {fv sv av pv:Value} {D:Dk} (h:RkAt w rl r fv sv av pv D) (hl:D.seen.length≤100000) (name:ByteArray) :
  Calls Tryz.prog 167 #[pt r,.string name] w fun e w'=>e = .returned (kfileV (D.file name))∧Turned (fun _=>False) w w':=by
 have c2:=cell_of h.blk 2 _ rfl
 have c6:=cell_of h.blk 6 _ rfl
 have hfd:=kfind_any name w h.seen hl
 obtain ⟨R,hR⟩:∃ R,R=kfileV (D.file name):=⟨_,rfl⟩
 have HR:Hid (R=kfileV (D.file name)):=hR
 rw [←hR]
 have H:Hid (RkAt w rl r fv sv av pv D):=h
 clear hR
 cases hoff:D.off with
 |true=>
  have HO:Hid (D.off=true):=hoff
  rw [hoff]at c6
  clear hoff hfd h
  go_enter Tryz.func167,Tryz.ntmps167
  go_wp2
  go_ret2
  exact ⟨by rw [HR.out];simp [Dk.file,HO.out,kfileV],Turned.refl _ _⟩
 |false=>
  have HO:Hid (D.off=false):=hoff
  rw [hoff]at c6
  obtain ⟨a,cap,hsv,-,-⟩:=h.seen.value
  clear hoff
  cases hf:findN D.seen name with
  |none=>
   have HF:Hid (findN D.seen name=none):=hf
   replace hfd:Calls Tryz.prog 243 #[sv,.string name] w fun e w'=>e = .returned (.int .i64 (-1))∧Turned (fun _=>False) w w':=hfd.mono fun e w' ⟨t,q⟩=>q.elim (fun q=>⟨q.2,t⟩) fun ⟨i,k,_,q,_⟩=>by rw [hf]at q;cases q
   clear hf h hsv
   go_enter Tryz.func167,Tryz.ntmps167
   go_wp2_with (go_at_call 243;(with_reducible refine hfd.mono ?_);rintro e w' ⟨rfl,t⟩;have TT:Hid (Turned (fun _=>False) w w'):=t;clear t)
   go_ret2
   exact ⟨by rw [HR.out];simp [Dk.file,HO.out,HF.out,kfileV],TT.out⟩
  |some k=>
   have HF:Hid (findN D.seen name=some k):=hf
   replace hfd:Calls Tryz.prog 243 #[sv,.string name] w fun e w'=>(∃ i:Nat,D.seen[i]? = some (name,k)∧e = .returned (.int .i64 (i:Nat)))∧Turned (fun _=>False) w w':=hfd.mono fun e w' ⟨t,q⟩=>q.elim (fun q=>by rw [hf]at q;cases q.1) fun ⟨i,k',q1,q,q2⟩=>⟨⟨i,by rw [hf]at q;cases q;exact q1,q2⟩,t⟩
   have key:Hid (∀ (i:Nat) (w' : World),D.seen[i]? = some (name,k)→Turned (fun _=>False) w w'→i<D.seen.length∧∃ g off,a=some ⟨g,off,none⟩∧w'.cell? ⟨g,off+i * 2+1,none⟩=some (.int .i64 (k:Nat))∧w'.cell? ⟨r,2,none⟩=some sv):=hidS fun i w' hi ht=>by
    have hj:=(List.getElem?_eq_some_iff.1 hi).1
    have h':=H.out.turned ht fun _ _ q=>q
    obtain ⟨g,off,cap2,hv,-,-,-,hcell,-,-⟩:=h'.seen.opens (by omega)
    rw [hsv]at hv
    simp only [Value.slice.injEq]at hv
    refine ⟨hj,g,off,hv.1,?_,cell_of h'.blk 2 _ rfl⟩
    rw [Nat.add_assoc,hcell _ (by omega),Nat.mul_comm]
    exact (ncellsR_get hi).2
   rw [hsv]at c2 key hfd
   generalize D.seen.length=n at *
   clear hf h hsv
   go_enter Tryz.func167,Tryz.ntmps167
   go_wp2_with (go_at_call 243;(with_reducible refine hfd.mono ?_);rintro e w' ⟨⟨i,hi,rfl⟩,t⟩;obtain ⟨hin,g,off,rfl,k1,k2⟩:=key.out i w' hi t;have TT:Hid (Turned (fun _=>False) w w'):=t;clear t hi;have hi0:decide ((i:Int)<0)=false:=by simp)
   go_ret2
   exact ⟨by rw [HR.out];simp [Dk.file,HO.out,HF.out,kfileV],TT.out⟩
theorem info242:(Tryz.prog.info? 242).map (fun i=>(i.zero,i.size,i.bytes))=some (some (.agg #[.string ⟨#[]⟩,.int .i64 0]),2,24):=by kernel_rfl
def flN (c:Chg) (l:Nms):Nms:=l.filter fun x=>decide (x.1≠c.gone) && decide (x.1≠c.come)
def KcRel (w1:World) (l:Nms) (c:Chg) (B:Nat) (g:Nat) (ov iv:Value) (wr:World):Prop:=
 ∃ (i:Nat) (S1:Nat→Prop),iv = .int .i64 (i:Nat)∧i+g=l.length∧Sl wr S1 242 2 ov (ncellsR (flN c (l.take i))) (flN c (l.take i)).length∧(∀ b,S1 b→B<b)∧Turned (fun _=>False) w1 wr
def KcPost (w:World) (l:Nms) (c:Chg) (e:Ending) (w' : World):Prop:=
 ∃ v,e = .returned v∧Sl w' (fun b=>w.heap.size≤b) 242 2 v (ncellsR (changed l c)) (changed l c).length∧Turned (fun _=>False) w w'
theorem flN_next (c:Chg) {l:Nms} {i:Nat} {x:ByteArray×Nat} (hx:l[i]? = some x):flN c (l.take (i+1))=flN c (l.take i) ++ if x.1≠c.gone∧x.1≠c.come then [x] else []:=by
 unfold flN
 rw [List.take_add_one,hx,List.filter_append]
 congr 1
 by_cases q:x.1≠c.gone∧x.1≠c.come
 ·rw [if_pos q];simp [q.1,q.2]
 ·rw [if_neg q]
  by_cases q1:x.1=c.gone
  ·simp [q1]
  ·have q2 : x.1 = c.come := by
    by_cases q2:x.1=c.come
    ·exact q2
    ·exact absurd ⟨q1,q2⟩ q
   simp [q2]
theorem flN_len (c:Chg) (l:Nms):(flN c l).length≤l.length:=List.length_filter_le _ _
set_option maxHeartbeats 1000000 in
theorem kchanged_any {S:Nat→Prop} {v:Value} {l:Nms} (c:Chg) (w:World) (h:Sl w S 242 2 v (ncellsR l) l.length) (hl:l.length≤100000) :
  Calls Tryz.prog 165 #[v,.agg #[.string c.gone,.string c.come,.int .i64 (c.file:Nat)]] w (KcPost w l c):=by
 obtain ⟨P,hP⟩:∃ P,P=KcPost w l c:=⟨_,rfl⟩
 have HP:Hid (P=KcPost w l c):=hP
 rw [←hP]
 obtain ⟨n,hn⟩:∃ n,n=l.length:=⟨_,rfl⟩
 have HN:Hid (n=l.length∧n≤100000):=hidS ⟨hn,by omega⟩
 obtain ⟨B,hB⟩:∃ B,B=w.heap.size:=⟨_,rfl⟩
 obtain ⟨w1,hw1⟩:∃ w1,w1=w.alloc (.cells #[.string c.gone,.string c.come,.int .i64 (c.file:Nat)] 240):=⟨_,rfl⟩
 have T1:Turned (fun _=>False) w w1:=by rw [hw1];exact Turned.alloc _ _ _
 have hbx:w1.heap[B]? = some (.cells #[.string c.gone,.string c.come,.int .i64 (c.file:Nat)] 240):=by rw [hw1,hB];exact Go.Mine.heap_alloc_new _ _
 have HBX:Hid (w1.heap[B]? = some (.cells #[.string c.gone,.string c.come,.int .i64 (c.file:Nat)] 240)∧B=w.heap.size∧w1.heap.size=B+1):=⟨hbx,hB,by rw [hw1,hB];simp⟩
 have HS:Hid (Sl w1 S 242 2 v (ncellsR l) l.length):=h.turned T1 fun _ _ q=>q
 have HT1:Hid (Turned (fun _=>False) w w1):=T1
 have B0:Hid (KcRel w1 l c B n (.slice none 0 0) (.int .i64 0) w1):=⟨0,fun _=>False,rfl,by omega,Sl.nil _ _ _ _,fun _ q=>q.elim,Turned.refl _ _⟩
 have BX:Hid (∀ W,Turned (fun _=>False) w1 W→W.cell? ⟨B,0,none⟩=some (.string c.gone)∧W.cell? ⟨B,1,none⟩=some (.string c.come)∧W.cell? ⟨B,2,none⟩=some (.int .i64 (c.file:Nat))∧B<W.heap.size):=hidS fun W ht=>by
  have:=(ht.block _ (lt_of_block HBX.out.1) id).trans HBX.out.1
  exact ⟨cell_of this 0 _ rfl,cell_of this 1 _ rfl,cell_of this 2 _ rfl,lt_of_block this⟩
 obtain ⟨a,cap,rfl,-,-⟩:=h.value
 obtain ⟨cg,hcg⟩:∃ x,x=c.gone:=⟨_,rfl⟩
 obtain ⟨cc,hcc⟩:∃ x,x=c.come:=⟨_,rfl⟩
 obtain ⟨cf,hcf⟩:∃ x,x=c.file:=⟨_,rfl⟩
 have HC:Hid (cg=c.gone∧cc=c.come∧cf=c.file):=⟨hcg,hcc,hcf⟩
 rw [←hn]
 rw [←hcg,←hcc,←hcf]at hw1 BX ⊢
 have hwB:w.heap.size=B:=hB.symm
 have hw1':=hw1.symm
 clear hP hn h hl hB hbx T1 hcg hcc hcf hw1
 go_enter Tryz.func165,Tryz.ntmps165
 go_wp2
 skip
 clear hw1' hwB
 go_loopg [5,6] n (fun g ov iv wr=>KcRel w1 l c B g ov iv wr)
 case atStart=>exact B0.out
 case round=>
  obtain ⟨i,S1,rfl,hig,hsl,hS1,ht⟩:=hrel
  have G:Hid (i+gk=l.length∧∀ b,S1 b→B<b):=⟨hig,hS1⟩
  have TT:Hid (Turned (fun _=>False) w1 wr):=ht
  have HSL:Hid (Sl wr S1 242 2 u5 (ncellsR (flN c (l.take i))) (flN c (l.take i)).length):=hsl
  obtain ⟨bx0,bx1,bx2,bxl⟩:=BX.out wr ht
  obtain ⟨a5,cap5,hov,-,-⟩:=hsl.value
  obtain ⟨N5,hN5⟩:∃ N5,N5=(flN c (l.take i)).length:=⟨_,rfl⟩
  have HN5:Hid (N5=(flN c (l.take i)).length):=hN5
  rw [←hN5]at hov
  subst hov
  clear hig hS1 ht hsl B0 hN5
  by_cases hlt:i<n
  ·obtain ⟨x, hx⟩ : ∃ x, l[i]? = some x := ⟨_, List.getElem?_eq_getElem (by have := HN.out.1; omega)⟩
   have hsl2:=HS.out.turned TT.out fun _ _ q=>q
   obtain ⟨g,off,cap2,hv,-,-,-,hcell,-,hgl⟩:=hsl2.opens (by have:=HN.out.1;omega)
   simp only [Value.slice.injEq]at hv
   obtain ⟨rfl,-,rfl⟩:=hv
   have c0:wr.cell? ⟨g,off+i * 2,none⟩=some (.string x.1):=by
    rw [hcell _ (by have:=HN.out.1;omega),Nat.mul_comm]
    exact (ncellsR_get hx).1
   have c1:wr.cell? ⟨g,off+i * 2+1,none⟩=some (.int .i64 (x.2:Nat)):=by
    rw [Nat.add_assoc,hcell _ (by have:=HN.out.1;omega),Nat.mul_comm]
    exact (ncellsR_get hx).2
   have HX:Hid (l[i]? = some x):=hx
   have HLT:Hid (i<n):=hlt
   have hd1:decide ((i:Int)<(n:Int))=true:=by simp;omega
   have hd2:decide (i<n)=true:=by simp;omega
   have HW:Hid (wrap64 ((i:Int)+1)=((i+1:Nat):Int)):=hidS (by have:=HLT.out;have:=HN.out.2;simp [wrap64];omega)
   clear hx hcell hsl2
   obtain ⟨x1,hx1⟩:∃ y,y=x.1:=⟨_,rfl⟩
   obtain ⟨x2,hx2⟩:∃ y,y=x.2:=⟨_,rfl⟩
   have HXX:Hid (x1=x.1∧x2=x.2):=⟨hx1,hx2⟩
   rw [←hx1]at c0
   rw [←hx2]at c1
   clear hx1 hx2
   by_cases hs1:x1=cg
   ·have HE : Hid (x1 = cg) := hs1
    have hb:=sb_eq hs1
    clear hs1
    go_wp2
    go_region
    all_goals go_wp2
    go_roundg (gk - 1)
    case measure=>have:=G.out.1;have:=HLT.out;have:=HN.out;omega
    case rel=>
     have e:flN c (l.take (i+1))=flN c (l.take i):=by
      rw [flN_next c HX.out,if_neg,List.append_nil]
      rw [←HXX.out.1,←HC.out.1,←HC.out.2.1]
      exact fun q=>q.1 HE.out
     exact ⟨i+1,S1,by rw [HW.out],by have:=G.out.1;have:=HLT.out;have:=HN.out;omega,by rw [e];first|exact HSL.out|exact HSL.out.drew,G.out.2,TT.out.draw⟩
   by_cases hs2:x1=cc
   ·have HE : Hid (x1 = cc) := hs2
    have hb:=sb_ne hs1
    have hb2:=sb_eq hs2
    clear hs1 hs2
    go_wp2
    go_region
    all_goals go_wp2
    go_roundg (gk - 1)
    case measure=>have:=G.out.1;have:=HLT.out;have:=HN.out;omega
    case rel=>
     have e:flN c (l.take (i+1))=flN c (l.take i):=by
      rw [flN_next c HX.out,if_neg,List.append_nil]
      rw [←HXX.out.1,←HC.out.1,←HC.out.2.1]
      exact fun q=>q.2 HE.out
     exact ⟨i+1,S1,by rw [HW.out],by have:=G.out.1;have:=HLT.out;have:=HN.out;omega,by rw [e];first|exact HSL.out|exact HSL.out.drew,G.out.2,TT.out.draw⟩
   ·have HE : Hid (x1 ≠ cg ∧ x1 ≠ cc) := ⟨hs1, hs2⟩
    have hb:=sb_ne hs1
    have hb2:=sb_ne hs2
    clear hs1 hs2
    have A1:Hid (Sl (wr.drew.alloc (.cells #[.string x1,.int .i64 (x2:Nat)] 242)) S1 242 2 (.slice a5 N5 cap5) (ncellsR (flN c (l.take i))) N5):=hidS (by
     have:=HSL.out
     rw [←HN5.out]at this
     exact (this.drew).turned (Turned.alloc (fun _=>False) _ _) fun _ _ q=>q)
    have SRC:Hid (Src Tryz.prog 2 197 (.slice (some ⟨wr.heap.size,0,none⟩) 1 1) 1 [.string x1,.int .i64 (x2:Nat)] (wr.drew.alloc (.cells #[.string x1,.int .i64 (x2:Nat)] 242))):=hidS (src_new 242 Tryz.underlying197 [.string x1,.int .i64 (x2:Nat)] (by simp [Value.oneCell']) wr.drew)
    have m1:Hid (N5+1≤maxLen∧(N5+1) * 24≤140737488355328):=hidS (by
     have h1:=flN_len c (l.take i)
     rw [List.length_take,←HN5.out]at h1
     have h2:=HN.out
     exact ⟨by simp only [maxLen];omega,by omega⟩)
    go_wp2
    go_region
    go_wp2_with (at_builtin;refine wpList_append rfl _ _ 197 197 rfl A1.out Tryz.underlying197 info242 rfl (by decide) rfl (.slice (some ⟨wr.heap.size,0,none⟩) 1 1) rfl SRC.out m1.out.1 m1.out.2 ?_;intro v4 w4 q1 q2;obtain ⟨a4,cap4,hv4,-,-⟩:=q1.value;subst hv4;have S4:Hid (Sl w4 _ 242 2 (.slice a4 (N5+1) cap4) _ (N5+1)∧Turned S1 _ w4):=⟨q1,q2⟩;clear q1 q2)
    go_roundg (gk - 1)
    case measure=>have:=G.out.1;have:=HLT.out;have:=HN.out;omega
    case rel=>
     have e:flN c (l.take (i+1))=flN c (l.take i) ++ [x]:=by
      rw [flN_next c HX.out,if_pos]
      rw [←HXX.out.1,←HC.out.1,←HC.out.2.1]
      exact HE.out
     have hsz:(wr.drew.alloc (.cells #[.string x1,.int .i64 (x2:Nat)] 242)).heap.size=wr.heap.size+1:=by simp
     have hB:=HBX.out.2.2
     have hs1:=TT.out.size
     refine ⟨i+1,More S1 (wr.drew.alloc (.cells #[.string x1,.int .i64 (x2:Nat)] 242)),by rw [HW.out],by have:=G.out.1;have:=HLT.out;have:=HN.out;omega,?_,fun b q=>q.elim (G.out.2 b) fun q=>by omega,?_⟩
     ·rw [e, ncellsR_app, List.length_append, ← HN5.out]
      have:ncellsR [x]=[.string x1,.int .i64 (x2:Nat)]:=by rw [HXX.out.1,HXX.out.2];rfl
      rw [this]
      exact S4.out.1
     ·exact (TT.out.draw.new _).comp S4.out.2 fun i hi q=>q.elim id fun q=>by have:=G.out.2 i q;omega
  ·have hd1 : decide ((i : Int) < (n : Int)) = false := by simp; omega
   have hd2:decide (i<n)=false:=by simp;omega
   have HLT:Hid (n≤i):=hidS (by omega)
   have HFL:Hid (flN c (l.take i)=flN c l):=hidS (by rw [List.take_of_length_le (by have:=HN.out.1;omega)])
   clear hlt
   by_cases hem:cc=emp
   ·have hb : (cc.toList == []) = true := by rw [hem, ByteArray.toList_eq]; rfl
    have HE:Hid (cc=emp):=hem
    clear hem
    go_wp2
    rw [HP.out]
    have e:changed l c=flN c l:=by unfold changed flN;rw [←HC.out.2.1,if_pos HE.out,List.append_nil]
    have hB:=HBX.out.2.1
    refine ⟨_,rfl,?_,HT1.out.trans TT.out fun _ _ q=>q⟩
    rw [e,←HFL.out,←HN5.out]
    have:=HSL.out
    rw [←HN5.out]at this
    exact this.widen fun b q=>by have:=G.out.2 b q;omega
   ·have hb : (cc.toList == []) = false := by
     have:cc.data.toList≠[]:=fun q=>hem (ByteArray.ext (Array.toList_inj.1 (by rw [q];rfl)))
     rw [ByteArray.toList_eq]
     cases q:cc.data.toList with
     |nil=>exact absurd q this
     |cons a l=>rfl
    have HE:Hid (cc≠emp):=hem
    clear hem
    have A1:Hid (Sl (wr.alloc (.cells #[.string cc,.int .i64 (cf:Nat)] 242)) S1 242 2 (.slice a5 N5 cap5) (ncellsR (flN c (l.take i))) N5):=hidS (by
     have:=HSL.out
     rw [←HN5.out]at this
     exact this.turned (Turned.alloc (fun _=>False) _ _) fun _ _ q=>q)
    have SRC:Hid (Src Tryz.prog 2 197 (.slice (some ⟨wr.heap.size,0,none⟩) 1 1) 1 [.string cc,.int .i64 (cf:Nat)] (wr.alloc (.cells #[.string cc,.int .i64 (cf:Nat)] 242))):=hidS (src_new 242 Tryz.underlying197 [.string cc,.int .i64 (cf:Nat)] (by simp [Value.oneCell']) wr)
    have m1:Hid (N5+1≤maxLen∧(N5+1) * 24≤140737488355328):=hidS (by
     have h1:=flN_len c (l.take i)
     rw [List.length_take,←HN5.out]at h1
     have h2:=HN.out
     exact ⟨by simp only [maxLen];omega,by omega⟩)
    go_wp2_with (at_builtin;refine wpList_append rfl _ _ 197 197 rfl A1.out Tryz.underlying197 info242 rfl (by decide) rfl (.slice (some ⟨wr.heap.size,0,none⟩) 1 1) rfl SRC.out m1.out.1 m1.out.2 ?_;intro v4 w4 q1 q2;obtain ⟨a4,cap4,hv4,-,-⟩:=q1.value;subst hv4;have S4:Hid (Sl w4 _ 242 2 (.slice a4 (N5+1) cap4) _ (N5+1)∧Turned S1 _ w4):=⟨q1,q2⟩;clear q1 q2)
    rw [HP.out]
    have e:changed l c=flN c l ++ [(c.come,c.file)]:=by unfold changed flN;rw [←HC.out.2.1,if_neg HE.out]
    have hB:=HBX.out.2.1
    have hB2:=HBX.out.2.2
    have hsz:(wr.alloc (.cells #[.string cc,.int .i64 (cf:Nat)] 242)).heap.size=wr.heap.size+1:=by simp
    have hs1:=TT.out.size
    refine ⟨_,rfl,?_,((HT1.out.trans TT.out fun _ _ q=>q).new _).comp S4.out.2 fun i hi q=>q.elim id fun q=>by have:=G.out.2 i q;omega⟩
    rw [e,ncellsR_app,List.length_append,←HFL.out,←HN5.out]
    have:ncellsR [(c.come,c.file)]=[.string cc,.int .i64 (cf:Nat)]:=by rw [HC.out.2.1,HC.out.2.2];rfl
    rw [this]
    exact S4.out.1.widen fun b q=>q.elim (fun q=>by have:=G.out.2 b q;omega) fun q=>by omega
end Go.Proofs.YtofcogekgcgjhaaGreatDoor
