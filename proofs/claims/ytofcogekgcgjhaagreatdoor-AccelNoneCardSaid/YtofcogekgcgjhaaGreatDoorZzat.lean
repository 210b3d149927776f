/- Packed. -/
import Derived.Test.YtofcogekgcgjhaaGreatDoorZzaf
set_option linter.unusedVariables false
set_option linter.unusedSimpArgs false
set_option maxRecDepth 100000
namespace Go.Proofs.YtofcogekgcgjhaaGreatDoor
open Go.RowKit Go.Mine Go.Mine.Ac
theorem file_ok {D:Dk} {name:ByteArray} {k:Nat} (h:D.file name = .ok k):D.off=false∧findN D.seen name=some k:=by
 unfold Dk.file at h
 cases ho:D.off with
 |true=>rw [ho]at h;simp at h
 |false=>
  rw [ho]at h
  cases hf:findN D.seen name with
  |none=>rw [hf]at h;simp at h
  |some j=>rw [hf]at h;simp at h;exact ⟨rfl,by rw [h]⟩
theorem file_err {D:Dk} {name:ByteArray} {k:Nat} (h:D.file name = .error k):k≠0:=by
 unfold Dk.file at h
 split at h
 ·injection h with h;omega
 ·split at h
  ·injection h with h;omega
  ·simp at h
theorem FsAt.live {w:World} {rl:Nat→Nat} {d ms mf:Nat} {pv:Value} {F:Nat→Nat} {D:Dk} (h:FsAt w rl d ms mf pv F D) {name:ByteArray} {k:Nat} (hk:D.file name = .ok k) :
  ∃ x,D.files[k]? = some x∧D.at k=x∧FileAt w rl F k x:=by
 obtain ⟨x,h1,h2⟩:=h.file k (.inl ⟨(name,k),findN_mem (file_ok hk).2,rfl⟩)
 exact ⟨x,h1,by simp [Dk.at,h1],h2⟩
theorem fread_any {w:World} {rl:Nat→Nat} {d ms mf:Nat} {pv:Value} {F:Nat→Nat} {D:Dk} (h:FsAt w rl d ms mf pv F D) (name:ByteArray) :
  Calls Tryz.prog 27 #[pt d,.string name] w fun e w'=>e = .returned (.tuple #[.string (D.read name).1,.int .i64 ((D.read name).2:Nat)])∧w=w':=by
 have hfi:=ffind_any h name
 cases hf:D.file name with
 |error k=>
  have HK:Hid (k≠0):=file_err hf
  have HR:Hid (D.read name=(emp,k)):=hidS (by simp [Dk.read,hf])
  have hk0:((k:Int) != 0)=true:=by have:=HK.out;simp;omega
  rw [hf]at hfi
  replace hfi:Calls Tryz.prog 88 #[pt d,.string name] w fun e w'=>e = .returned (.tuple #[.pointer none,.int .i64 (k:Nat)])∧w=w':=hfi
  clear h hf
  rw [HR.out]
  go_enter Tryz.func27,Tryz.ntmps27
  go_wp2_with (go_at_call 88;(with_reducible refine hfi.mono ?_);rintro e w' ⟨rfl,rfl⟩)
  go_ret2
  exact ⟨rfl,rfl⟩
 |ok k=>
  obtain ⟨x,h1,h2,h3⟩:=h.live hf
  have HR:Hid (D.read name=(x.bytes,0)):=hidS (by simp [Dk.read,hf,h2])
  obtain ⟨-,bv,hb,hs⟩:=h3
  have c1:=cell_of hb 1 _ rfl
  have hlt:=lt_of_block hb
  have hbk:=sl_back (bs:=x.bytes.data.toList) (by simpa using hs)
  rw [hf]at hfi
  replace hfi:Calls Tryz.prog 88 #[pt d,.string name] w fun e w'=>e = .returned (.tuple #[pt (F k),.int .i64 0])∧w=w':=hfi
  clear h hf h1 h2 hb hs
  rw [HR.out]
  go_enter Tryz.func27,Tryz.ntmps27
  go_wp2_with (go_at_call 88;(with_reducible refine hfi.mono ?_);rintro e w' ⟨rfl,rfl⟩)
  go_ret2
  exact ⟨rfl,rfl⟩
theorem foff_any {w:World} {rl:Nat→Nat} {d ms mf:Nat} {pv:Value} {F:Nat→Nat} {D:Dk} (h:FsAt w rl d ms mf pv F D) :
  Calls Tryz.prog 53 #[pt d] w fun e w'=>e = .returned (.bool D.off)∧w=w':=by
 have c6:=cell_of h.blk 6 _ rfl
 have hlt:=lt_of_block h.blk
 clear h
 generalize D.off=o at *
 go_enter Tryz.func53,Tryz.ntmps53
 go_wp2
 go_ret
 exact ⟨rfl,rfl⟩
theorem nodup_map {α β:Type} (f:α→β) (hf:∀ a b,f a=f b→a=b):∀ {l:List α},l.Nodup→(l.map f).Nodup
 | [],_=>by simp
 |x :: l,h=>by
  obtain ⟨h1,h2⟩:=List.nodup_cons.1 h
  rw [List.map_cons,List.nodup_cons]
  refine ⟨fun q=>?_,nodup_map f hf h2⟩
  obtain ⟨y,hy,e⟩:=List.mem_map.1 q
  exact h1 (hf _ _ e ▸ hy)
theorem mapN_count {w:World} {b n:Nat} {m:Value→Option Value} (h:MapIs KStr w b m n) {F:Nat→Nat} {l:Nms} (hm:∀ k,m k=mapN F l k) (hn:(l.map (·.1)).Nodup):n=l.length:=by
 obtain ⟨es,clock,h1,h2,h3,h4,h5,h6⟩:=h
 have n1:(es.toList.map (·.key)).Nodup:=by
  rw [List.nodup_iff_pairwise_ne,List.pairwise_map]
  exact h5
 have n2:((l.map (·.1)).map Value.string).Nodup:=nodup_map _ (fun a b q=>by injection q) hn
 have hp:(es.toList.map (·.key)).Perm ((l.map (·.1)).map Value.string):=by
  rw [List.perm_ext_iff_of_nodup n1 n2]
  intro k
  constructor
  ·intro hk
   obtain ⟨e,he,rfl⟩:=List.mem_map.1 hk
   have:=h3 e he
   rw [hm]at this
   cases hke:e.key with
   |string s=>
    rw [hke]at this
    obtain ⟨j,hj,-⟩:=Option.map_eq_some_iff.1 this
    exact List.mem_map.2 ⟨s,List.mem_map.2 ⟨_,findN_mem hj,rfl⟩,rfl⟩
   |_=>rw [hke]at this;simp [mapN]at this
  ·intro hk
   obtain ⟨s,hs,rfl⟩:=List.mem_map.1 hk
   obtain ⟨x,hx,rfl⟩:=List.mem_map.1 hs
   have:=findN_of_mem hn (show (x.1,x.2)∈l from hx)
   obtain ⟨e,he,hk⟩:=h4 (.string x.1) (pt (F x.2)) (by rw [hm];simp [mapN,this])
   exact List.mem_map.2 ⟨e,he,hk⟩
 have:=hp.length_eq
 simpa [h6] using this
open Classical in
theorem mapN_changed (F:Nat→Nat) (l:Nms) (c:Chg) (hne:∀ x∈l,x.1≠emp) (k:Value) :
  mapN F (changed l c) k=(if c.come=emp then (if k = .string (if c.gone=emp then c.come else c.gone) then none else mapN F l k) else if k = .string c.come then some (pt (F c.file)) else if k = .string (if c.gone=emp then c.come else c.gone) then none else mapN F l k):=by
 cases k with
 |string s=>
  simp only [mapN,findN_changed,Value.string.injEq]
  have he:findN l emp=none:=findN_none.2 fun q=>by
   obtain ⟨x,hx,e⟩:=List.mem_map.1 q
   exact hne x hx e
  by_cases h1:c.come=emp
  ·rw [if_pos h1]
   by_cases h2:c.gone=emp
   ·rw [if_pos h2, h1]
    by_cases h3:s=emp <;> simp [h3,h1,h2,he]
   ·rw [if_neg h2, h1]
    by_cases h3:s=emp
    ·simp [h3,he]
    ·by_cases h4:s=c.gone <;> simp [h3,h4]
  ·rw [if_neg h1]
   by_cases h3:s=c.come
   ·simp [h3,h1]
   ·rw [if_neg h3, if_neg h3]
    by_cases h2:c.gone=emp
    ·rw [if_pos h2, if_neg h3, h2]
     by_cases h4:s=emp
     ·simp [h4,he]
     ·simp [h4]
    ·rw [if_neg h2]
     by_cases h4:s=c.gone <;> simp [h4]
 |_=>simp [mapN]
theorem alloc_old {w:World} {b:Nat} (o:Obj) (hb:b<w.heap.size):(w.alloc o).heap[b]? = w.heap[b]? := (Turned.alloc (fun _=>False) w o).block b hb id
def DoPost (w:World) (m:Nat) (F:Nat→Nat) (l:Nms) (c:Chg) (e:Ending) (w' : World):Prop:=
  e = .returned (.tuple #[])∧MapIs KStr w' m (mapN F (changed l c)) (changed l c).length∧Turned (· = m) w w'∧w'.heap.size=w.heap.size+1∧Births w' m
set_option maxHeartbeats 1000000 in
theorem fdo_any {w:World} {m:Nat} {F:Nat→Nat} {l:Nms} (c:Chg) (h:MapIs KStr w m (mapN F l) l.length) (hB:Births w m) (hn:(l.map (·.1)).Nodup) (hne:∀ x∈l,x.1≠emp) :
    Calls Tryz.prog 89 #[.agg (pcell F c).toArray,.map (some m)] w (DoPost w m F l c):=by
  have MC:=mapN_changed F l c hne
  have HN:Hid (((changed l c).map (·.1)).Nodup):=changed_nodup c hn
  obtain ⟨g,hg⟩:∃ g,g=if c.gone=emp then c.come else c.gone:=⟨_,rfl⟩
  obtain ⟨L,hL⟩:∃ L,L=changed l c:=⟨_,rfl⟩
  obtain ⟨D,hD⟩:∃ D,D=DoPost w m F l c:=⟨_,rfl⟩
  have HD:Hid (D=DoPost w m F l c):=hD
  have HL:Hid (L=changed l c):=hL
  rw [←hD]
  have hlt:=h.lt
  have hB1:∀ o,Births (w.alloc o) m:=fun o=>hB.congr (alloc_old o hlt)
  replace hB1:Hid (∀ o,Births (w.alloc o) m):=hB1
  clear hB
  by_cases hc:c.come=emp
  · have hp : (pcell F c).toArray = #[.string g, .string emp, .pointer none] := by simp [pcell, hg, hc]
    rw [hp]
    have hm1:MapIs KStr (w.alloc (.cells #[.string g,.string emp,.pointer none] 159)) m (mapN F l) l.length:=h.congr (alloc_old _ hlt) fun _=>rfl
    have MC2:Hid (∀ k,mapN F (changed l c) k=(by classical exact if k = .string g then none else mapN F l k)):=hidS fun k=>by
      rw [MC k,if_pos hc,←hg]
    have HC:Hid (c.come=emp):=hc
    clear MC hg hL hD h hc hp hn hne
    go_enter Tryz.func89,Tryz.ntmps89
    go_wp2_with (first|(at_delete;refine wpList_deleteB rfl _ _ 145 9 rfl 153 keyStr Tryz.underlying145 hm1 (hB1.out _) rfl (.string g) rfl (kstr _) ?_;intro w2 hm2 hb2 ht2 hz2;have k2:=cell_of ((ht2.block w.heap.size (by simp) (by omega)).trans (heap_alloc_new w _)) 2 _ rfl;have M2:Hid (MapIs KStr w2 m (fun y=>by classical exact if y = .string g then none else mapN F l y) _∧Turned (· = m) _ w2∧w2.heap.size=_∧Births w2 m):=hidS ⟨hm2,ht2,hz2,hb2⟩;clear hm2 ht2 hz2 hb2))
    go_end0
    rw [HD.out]
    have hcnt:=mapN_count M2.out.1 (fun k=>(MC2.out k).symm) HN.out
    have hm3:=M2.out.1
    rw [hcnt]at hm3
    exact ⟨rfl,hm3.congr rfl MC2.out,(Turned.alloc (· = m) w _).trans M2.out.2.1 fun _ _ q=>q,by rw [M2.out.2.2.1];simp,M2.out.2.2.2⟩
  · have hp : (pcell F c).toArray = #[.string g, .string c.come, pt (F c.file)] := by simp [pcell, hg, hc]
    rw [hp]
    have hm1:MapIs KStr (w.alloc (.cells #[.string g,.string c.come,pt (F c.file)] 159)) m (mapN F l) l.length:=h.congr (alloc_old _ hlt) fun _=>rfl
    have MC2:Hid (∀ k,mapN F (changed l c) k=(by classical exact if k = .string c.come then some (pt (F c.file)) else if k = .string g then none else mapN F l k)):=hidS fun k=>by
      rw [MC k,if_neg hc,←hg]
    have HC:Hid (¬ c.come=emp):=hc
    obtain ⟨z,hz⟩:∃ z,z=c.come:=⟨_,rfl⟩
    have HZ:Hid (z=c.come):=hz
    obtain ⟨f,hf⟩:∃ f,f=F c.file:=⟨_,rfl⟩
    have HF:Hid (f=F c.file):=hf
    rw [←hz,←hf]at hm1 ⊢
    clear MC hg hL hD h hc hp hn hne hz hf
    go_enter Tryz.func89,Tryz.ntmps89
    go_wp2_with (first
      | (at_delete; refine wpList_deleteB rfl _ _ 145 9 rfl 153 keyStr Tryz.underlying145 hm1 (hB1.out _) rfl (.string g) rfl (kstr _) ?_; intro w2 hm2 hb2 ht2 hz2
         have k0:=cell_of ((ht2.block w.heap.size (by simp) (by omega)).trans (heap_alloc_new w _)) 0 _ rfl
         have k1:=cell_of ((ht2.block w.heap.size (by simp) (by omega)).trans (heap_alloc_new w _)) 1 _ rfl
         have k2:=cell_of ((ht2.block w.heap.size (by simp) (by omega)).trans (heap_alloc_new w _)) 2 _ rfl
         have M2:Hid (MapIs KStr w2 m (fun y=>by classical exact if y = .string g then none else mapN F l y) _∧Turned (· = m) _ w2∧w2.heap.size=_∧Births w2 m):=hidS ⟨hm2,ht2,hz2,hb2⟩;clear ht2 hz2 hb2)
      | (at_mapUpdate; go_must (refine wpList_updateB rfl _ _ _ 145 rfl 9 153 keyStr Tryz.underlying145 hm2 M2.out.2.2.2 rfl (.string z) (pt f) rfl rfl (kstr _) ?_); intro w3 hm3 hb3 ht3 hz3
         have M3:Hid (MapIs KStr w3 m _ _∧Turned (· = m) w2 w3∧w3.heap.size=w2.heap.size∧Births w3 m):=hidS ⟨hm3,ht3,hz3,hb3⟩;clear hm3 ht3 hz3 hb3))
    go_end0
    rw [HD.out]
    have MC3:∀ k,mapN F (changed l c) k=(by classical exact if k = .string z then some (pt f) else if k = .string g then none else mapN F l k):=fun k=>by rw [MC2.out k,HZ.out,HF.out]
    have hcnt:=mapN_count M3.out.1 (fun k=>(MC3 k).symm) HN.out
    have hm4:=M3.out.1
    rw [hcnt]at hm4
    exact ⟨rfl,hm4.congr rfl MC3,((Turned.alloc (· = m) w _).trans M2.out.2.1 fun _ _ q=>q).trans M3.out.2.1 fun _ _ q=>q,by rw [M3.out.2.2.1,M2.out.2.2.1];simp,M3.out.2.2.2⟩
end Go.Proofs.YtofcogekgcgjhaaGreatDoor
namespace Go.Mine.Ac
theorem walkN_app (c:Chg):∀ (l:Nms) (cs:List Chg),walkN l (cs ++ [c])=walkN l cs ++ [changed (cs.foldl changed l) c]
 |l,[]=>rfl
 |l,x :: cs=>by rw [List.cons_append,walkN,walkN,walkN_app c,List.cons_append,List.foldl_cons]
theorem walkN_last:∀ (l:Nms) (cs:List Chg),cs.foldl changed l∈walkN l cs
 |l,[]=>by simp [walkN]
 |l,x :: cs=>by rw [walkN,List.foldl_cons];exact List.mem_cons_of_mem _ (walkN_last _ cs)
theorem Dk.Ok.seenOk {d:Dk} (h:d.Ok):NmsOk d.files.length d.seen:=h.last ▸ h.walk _ (walkN_last _ _)
theorem NmsOk.ne {n:Nat} {l:Nms} (h:NmsOk n l):∀ x∈l,x.1≠emp:=fun x hx=>goodName_ne (h.good x hx)
theorem NmsOk.mono {n m:Nat} {l:Nms} (h:NmsOk n l) (hm:n≤m):NmsOk m l:=⟨h.nodup,h.good,fun x hx=>Nat.lt_of_lt_of_le (h.file x hx) hm,h.fnodup,h.many⟩
theorem snd_inj:∀ {l:Nms},(l.map (·.2)).Nodup→∀ {x y:ByteArray×Nat},x∈l→y∈l→x.2=y.2→x=y
 | [],_,_,_,h,_,_=>by simp at h
 |z :: l,hn,x,y,hx,hy,he=>by
  rw [List.map_cons,List.nodup_cons]at hn
  rcases List.mem_cons.1 hx with rfl|hx2
  ·rcases List.mem_cons.1 hy with rfl | hy2
   ·rfl
   ·exact (hn.1 (List.mem_map.2 ⟨y,hy2,he.symm⟩)).elim
  ·rcases List.mem_cons.1 hy with rfl | hy2
   ·exact (hn.1 (List.mem_map.2 ⟨x,hx2,he⟩)).elim
   ·exact snd_inj hn.2 hx2 hy2 he
theorem filter_less {p:ByteArray×Nat→Bool}:∀ {l:Nms} {x:ByteArray×Nat},x∈l→p x=false→(l.filter p).length<l.length
 | [],_,h,_=>by simp at h
 |y :: l,x,h,hp=>by
  have h0:=List.length_filter_le p l
  rcases List.mem_cons.1 h with rfl|h
  ·rw [List.filter_cons,hp];simp only [List.length_cons,Bool.false_eq_true,if_false];omega
  ·have := filter_less h hp
   rw [List.filter_cons]
   split <;> simp only [List.length_cons] <;> omega
theorem NmsOk.changed {n:Nat} {l:Nms} {c:Chg} (h:NmsOk n l) (hg:c.come≠emp→goodName c.come=true) (hf:c.come≠emp→c.file<n)
  (hu:c.come≠emp→∀ x∈l,x.2=c.file→x.1=c.gone∨x.1=c.come) (hl:c.come≠emp→l.length<64∨∃ x∈l,x.1=c.gone∨x.1=c.come):NmsOk n (changed l c):=by
 refine ⟨changed_nodup c h.nodup,?_,?_,?_,?_⟩
 ·intro x hx
  rcases changed_mem hx with q|⟨q,rfl⟩
  ·exact h.good x q.1
  ·exact hg q
 ·intro x hx
  rcases changed_mem hx with q|⟨q,rfl⟩
  ·exact h.file x q.1
  ·exact hf q
 ·unfold Ac.changed
  rw [List.map_append]
  have h1:((l.filter fun x=>decide (x.1≠c.gone) && decide (x.1≠c.come)).map (·.2)).Nodup:=h.fnodup.sublist ((List.filter_sublist).map _)
  split
  ·simpa using h1
  ·rename_i q
   rw [List.nodup_append]
   refine ⟨h1,by simp,?_⟩
   intro a ha b hb
   simp only [List.map_cons,List.map_nil,List.mem_singleton]at hb
   subst hb
   obtain ⟨x,hx,rfl⟩:=List.mem_map.1 ha
   obtain ⟨hx1,hx2⟩:=List.mem_filter.1 hx
   simp only [ne_eq,Bool.and_eq_true,decide_eq_true_eq]at hx2
   intro e
   rcases hu q x hx1 e with r|r
   ·exact hx2.1 r
   ·exact hx2.2 r
 ·unfold Ac.changed
  rw [List.length_append]
  have h0:=List.length_filter_le (fun x:ByteArray×Nat=>decide (x.1≠c.gone) && decide (x.1≠c.come)) l
  have hm:=h.many
  split
  ·simp only [List.length_nil];omega
  ·rename_i q
   simp only [List.length_cons,List.length_nil]
   rcases hl q with r|⟨x,hx,r⟩
   ·omega
   ·have := filter_less (p := fun x : ByteArray × Nat => decide (x.1 ≠ c.gone) && decide (x.1 ≠ c.come)) hx (by rcases r with r | r <;> simp [r])
    omega
theorem Dk.Ok.change {d:Dk} {c:Chg} (h:d.Ok) (hc:NmsOk d.files.length (changed d.seen c)):(d.change c).Ok:=by
 refine ⟨?_,?_,h.safe,h.small,h.quota,h.fall⟩
 ·intro l hl
  unfold Dk.change at hl
  simp only []at hl
  rw [walkN_app]at hl
  rcases List.mem_append.1 hl with q|q
  ·exact h.walk l q
  ·rw [List.mem_singleton] at q
   rw [q,h.last]
   exact hc
 ·show (d.pend ++ [c]).foldl Ac.changed d.safe = Ac.changed d.seen c
  rw [List.foldl_append,h.last];rfl
theorem Dk.Ok.more {d:Dk} (h:d.Ok):Dk.Ok { d with files:=d.files ++ [⟨emp,0⟩] }:=by
 refine ⟨fun l hl=>(h.walk l hl).mono (by simp),h.last,?_,?_,h.quota,h.fall⟩
 ·intro x hx
  rcases List.mem_append.1 hx with q|q
  ·exact h.safe x q
  ·rw [List.mem_singleton]at q;subst q;exact Nat.zero_le _
 ·intro x hx
  rcases List.mem_append.1 hx with q|q
  ·exact h.small x q
  ·rw [List.mem_singleton]at q;subst q;exact Nat.zero_le _
theorem Dk.Ok.setF {d:Dk} (h:d.Ok) (k:Nat) (x:Fl) (h1:x.safe≤x.bytes.size) (h2:x.bytes.size≤d.quota):(d.setF k x).Ok:=by
 refine ⟨fun l hl=>(h.walk l hl).mono (by simp [Dk.setF]),h.last,?_,?_,h.quota,h.fall⟩
 ·intro y hy
  rcases List.mem_or_eq_of_mem_set hy with q|rfl
  ·exact h.safe y q
  ·exact h1
 ·intro y hy
  rcases List.mem_or_eq_of_mem_set hy with q|rfl
  ·exact h.small y q
  ·exact h2
theorem Dk.step_cases (d:Dk):(d.falls≠1∧d.step=({ d with falls:=d.falls - 1 },0))∨(d.falls=1∧d.step=({ d with falls:=0,off:=true },8)):=by
 unfold Dk.step
 by_cases h0:d.falls=0
 ·left
  rw [if_pos h0]
  refine ⟨by omega,?_⟩
  cases d;simp at h0 ⊢;omega
 ·rw [if_neg h0]
  by_cases h1:d.falls=1
  ·right;rw [if_pos h1];exact ⟨h1,rfl⟩
  ·left;rw [if_neg h1];exact ⟨h1,rfl⟩
theorem Dk.then_goes {d:Dk} (h:d.falls≠1) (f:Dk→Dk):d.then f=(f { d with falls:=d.falls - 1 },0):=by
 unfold Dk.then
 rcases d.step_cases with ⟨-,q⟩|⟨q,-⟩
 ·rw [q];rfl
 ·exact absurd q h
theorem Dk.then_dies {d:Dk} (h:d.falls=1) (f:Dk→Dk):d.then f=({ d with falls:=0,off:=true },8):=by
 unfold Dk.then
 rcases d.step_cases with ⟨q,-⟩|⟨-,q⟩
 ·exact absurd h q
 ·rw [q];rfl
theorem Dk.Ok.falls {d:Dk} (h:d.Ok) (n:Nat) (o:Bool) (hn:n≤9223372036854775807):Dk.Ok { d with falls:=n,off:=o }:=⟨h.walk,h.last,h.safe,h.small,h.quota,hn⟩
theorem Dk.Ok.thenOk {d:Dk} (h:d.Ok) (f:Dk→Dk) (hf:∀ n,n≤9223372036854775807→Dk.Ok (f { d with falls:=n })):(d.then f).1.Ok:=by
 by_cases h1:d.falls=1
 ·rw [Dk.then_dies h1];exact h.falls 0 true (Nat.zero_le _)
 ·rw [Dk.then_goes h1];exact hf _ (Nat.le_trans (Nat.sub_le _ _) h.fall)
theorem Dk.Ok.createOk {d:Dk} (h:d.Ok) (name:ByteArray):(d.create name).1.Ok:=by
 unfold Dk.create
 split
 ·exact h
 split
 ·exact h
 rename_i hg
 split
 ·exact h
 rename_i hm
 refine h.thenOk _ fun n hn=>?_
 have hk:Dk.Ok { d with falls:=n,files:=d.files ++ [⟨emp,0⟩] }:=(Dk.Ok.more (h.falls n d.off hn))
 refine Dk.Ok.change (d:={ d with falls:=n,files:=d.files ++ [⟨emp,0⟩] }) hk ?_
 have hs:=h.seenOk
 show NmsOk (d.files ++ [(⟨emp,0⟩:Fl)]).length (Ac.changed d.seen ⟨emp,name,d.files.length⟩)
 refine NmsOk.changed (c:=⟨emp,name,d.files.length⟩) (hs.mono (by simp)) (fun _=>by simpa using hg) (fun _=>by simp) (fun _ x hx he=>?_) (fun _=>?_)
 ·have := hs.file x hx
  have he' : x.2=d.files.length:=he
  omega
 ·have hmm := hs.many
  by_cases hf:findN d.seen name=none
  ·left
   have:¬ 64≤d.seen.length:=fun q=>hm ⟨hf,q⟩
   omega
  ·right
   obtain ⟨k,hk⟩:=Option.ne_none_iff_exists'.1 hf
   exact ⟨_,findN_mem hk,.inr rfl⟩
theorem Dk.file_live {d:Dk} {name:ByteArray} {k:Nat} (h:d.file name = .ok k):(name,k)∈d.seen:=by
 unfold Dk.file at h
 split at h
 ·simp at h
 ·cases hf : findN d.seen name with
  |none=>rw [hf]at h;simp at h
  |some j=>rw [hf]at h;simp at h;subst h;exact findN_mem hf
theorem Dk.Ok.at_lt {d:Dk} (h:d.Ok) {name:ByteArray} {k:Nat} (hk:(name,k)∈d.seen):∃ x,d.files[k]? = some x∧d.at k=x∧x∈d.files:=by
 have hlt:k<d.files.length:=h.seenOk.file _ hk
 have he:=List.getElem?_eq_getElem hlt
 exact ⟨_,he,by simp [Dk.at,he],List.getElem_mem hlt⟩
theorem used_le {d:Dk} {k:Nat} {name:ByteArray} (hk:(name,k)∈d.seen):(d.at k).bytes.size≤d.used:=by
 unfold Dk.used
 have:∀ (l:Nms),(name,k)∈l→(d.at k).bytes.size≤(l.map fun x=>(d.at x.2).bytes.size).sum:=by
  intro l
  induction l with
  |nil=>intro h;simp at h
  |cons x l ih=>
   intro h
   rw [List.map_cons,List.sum_cons]
   rcases List.mem_cons.1 h with rfl|h
   ·exact Nat.le_add_right _ _
   ·exact Nat.le_trans (ih h) (Nat.le_add_left _ _)
 exact this _ hk
theorem used_small {d:Dk} (h:d.Ok):d.used≤64 * 16777216:=by
 have hs:=h.seenOk
 have:∀ (l:Nms),(∀ x∈l,x.2<d.files.length)→(l.map fun x=>(d.at x.2).bytes.size).sum≤l.length * 16777216:=by
  intro l
  induction l with
  |nil=>intro _;simp
  |cons x l ih=>
   intro hl
   rw [List.map_cons,List.sum_cons,List.length_cons]
   have h1:=ih fun y hy=>hl y (List.mem_cons_of_mem _ hy)
   have hlt:=hl x (List.mem_cons_self ..)
   have he:=List.getElem?_eq_getElem hlt
   have h2:(d.at x.2).bytes.size≤d.quota:=by simp only [Dk.at,he,Option.getD_some];exact h.small _ (List.getElem_mem hlt)
   have h3:=h.quota
   omega
 have h1:=this d.seen hs.file
 exact Nat.le_trans h1 (Nat.mul_le_mul_right _ hs.many)
theorem Dk.Ok.appendOk {d:Dk} (h:d.Ok) (name text:ByteArray):(d.append name text).1.Ok:=by
 unfold Dk.append
 cases hf:d.file name with
 |error e=>exact h
 |ok k=>
  simp only []
  split
  ·exact h
  rename_i hq
  have hl:=Dk.file_live hf
  obtain ⟨x,h1,h2,h3⟩:=h.at_lt hl
  refine h.thenOk _ fun n hn=>?_
  have hx:({ d with falls:=n }:Dk).at k=x:=h2
  have hu:=used_le hl
  have hs1:=h.safe x h3
  have hs2:=h.small x h3
  refine Dk.Ok.setF (h.falls n d.off hn) k _ ?_ ?_
  ·rw [hx,ByteArray.size_append];simp only [];omega
  ·rw [hx, ByteArray.size_append]
   rw [h2]at hu
   show x.bytes.size+text.size≤d.quota
   by_cases h0:0<text.size
   ·have : ¬ d.quota < d.used + text.size := fun q => hq ⟨h0, q⟩
    omega
   ·omega
theorem Dk.Ok.syncOk {d:Dk} (h:d.Ok) (name:ByteArray):(d.sync name).1.Ok:=by
 unfold Dk.sync
 cases hf:d.file name with
 |error e=>exact h
 |ok k=>
  obtain ⟨x,h1,h2,h3⟩:=h.at_lt (Dk.file_live hf)
  refine h.thenOk _ fun n hn=>?_
  have hx:({ d with falls:=n }:Dk).at k=x:=h2
  refine Dk.Ok.setF (h.falls n d.off hn) k _ (by rw [hx];exact Nat.le_refl _) ?_
  rw [hx];exact h.small x h3
theorem Dk.Ok.syncNamesOk {d:Dk} (h:d.Ok):d.syncNames.1.Ok:=by
 unfold Dk.syncNames
 split
 ·exact h
 refine h.thenOk _ fun n hn=>⟨?_,rfl,h.safe,h.small,h.quota,hn⟩
 intro l hl
 simp only [walkN,List.mem_singleton]at hl
 subst hl
 exact h.seenOk
theorem Dk.Ok.renameOk {d:Dk} (h:d.Ok) (a b:ByteArray):(d.rename a b).1.Ok:=by
 unfold Dk.rename
 cases hf:d.file a with
 |error e=>exact h
 |ok k=>
  simp only []
  split
  ·exact h
  rename_i hg
  have hl:=Dk.file_live hf
  have hs:=h.seenOk
  refine h.thenOk _ fun n hn=>?_
  split
  ·exact h.falls n d.off hn
  rename_i hab
  refine Dk.Ok.change (h.falls n d.off hn) ?_
  refine NmsOk.changed (c:=⟨a,b,k⟩) hs (fun _=>by simpa using hg) (fun _=>hs.file _ hl) (fun _ x hx he=>?_) (fun _=>.inr ⟨_,hl,.inl rfl⟩)
  exact .inl (congrArg Prod.fst (snd_inj hs.fnodup hx hl he))
theorem Dk.Ok.removeOk {d:Dk} (h:d.Ok) (name:ByteArray):(d.remove name).1.Ok:=by
 unfold Dk.remove
 cases hf:d.file name with
 |error e=>exact h
 |ok k=>
  refine h.thenOk _ fun n hn=>?_
  refine Dk.Ok.change (h.falls n d.off hn) ?_
  exact NmsOk.changed h.seenOk (fun q=>absurd rfl q) (fun q=>absurd rfl q) (fun q=>absurd rfl q) (fun q=>absurd rfl q)
theorem newDk_ok {q:Int} {d:Dk} (h:newDk q=some d):d.Ok:=by
 unfold newDk at h
 split at h
 ·simp at h
 ·rename_i hq
  simp only [Option.some.injEq]at h
  subst h
  refine ⟨?_,rfl,by simp,by simp,?_,Nat.zero_le _⟩
  ·intro l hl
   simp only [walkN,List.mem_singleton]at hl
   subst hl
   exact ⟨by simp,by simp,by simp,by simp,by simp⟩
  ·show q.toNat ≤ 16777216
   omega
end Go.Mine.Ac
