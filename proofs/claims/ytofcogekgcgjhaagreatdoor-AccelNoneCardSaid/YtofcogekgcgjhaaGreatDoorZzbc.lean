/- Packed. -/
import Derived.Test.YtofcogekgcgjhaaGreatDoorZzaz
import Derived.Test.YtofcogekgcgjhaaGreatDoorZzas
set_option linter.unusedVariables false
set_option linter.unusedSimpArgs false
set_option maxRecDepth 100000
namespace Go.Proofs.YtofcogekgcgjhaaGreatDoor
open Go.RowKit Go.Mine Go.Mine.Ac
def exV:Except Nat ByteArray→Value
 | .ok b=>.tuple #[.string b,.int .i64 0]
 | .error k=>.tuple #[.string ⟨#[]⟩,.int .i64 (k:Nat)]
def lastT (l:List Ent):ByteArray:=(l.getLast?.map (·.1)).getD ⟨#[]⟩
theorem lastT_size {t:List Ent} (h:∀ x∈t,x.1.size≤255) (j:Nat):(lastT (t.take j)).size≤255:=by
 unfold lastT
 cases q:(t.take j).getLast? with
 |none=>decide
 |some x=>exact h x (List.mem_of_mem_take (List.mem_of_getLast? q))
theorem entB_eq {la p:ByteArray} {k r:Nat} (b:Nat) (hk:k=alike la p) (hr:r+k=p.size):num k 1 ++ num r 1 ++ (p.extract k p.size).data.toList ++ num b 4=entB la (p,b):=by
 have e:p.size - alike la p=r:=by omega
 have e2:(p.extract k p.size).data.toList=p.data.toList.drop k:=by
  rw [toList_extract,List.take_of_length_le]
  simp only [List.length_drop,Array.length_toList]
  exact Nat.le_refl _
 unfold entB
 rw [e,e2,hk]
def TeRel (w2:World) (t:List Ent) (g:Nat) (iv lv:Value) (wr:World):Prop:=
 ∃ j:Nat,j+g=t.length∧iv = .int .i64 (j:Nat)∧lv = .string (lastT (t.take j))∧Wr wr (fun b=>w2.heap.size≤b) w2.heap.size (num t.length 2 ++ entsB ⟨#[]⟩ (t.take j))∧Turned (fun b=>w2.heap.size≤b) w2 wr
def TePost (w:World) (t:List Ent) (e:Ending) (w' : World):Prop:=e = .returned (exV (encT t))∧Turned (fun _=>False) w w'
set_option maxHeartbeats 4000000 in
theorem tencode_good {S:Nat→Prop} {a:Option Addr} {cap:Nat} {t:List Ent} (w:World) (h:Ents w S a cap t) (hok:TreeOk t):Calls Tryz.prog 67 #[.slice a t.length cap] w (TePost w t):=by
 obtain ⟨D,hD⟩:∃ D,D=TePost w t:=⟨_,rfl⟩
 have HD:Hid (D=TePost w t):=hD
 rw [←hD]
 have HV:Hid (encT t = .ok (bya (toldT t))):=by
  have:encT t = .ok (bya (toldT t)):=by unfold encT;rw [if_neg (by have:=hok.1;omega),if_pos hok.2]
  exact this
 have hck:=tcheck_any w h (by have:=hok.1;omega)
 rw [CtPost_eq hok.2]at hck
 have H:Hid (Ents w S a cap t):=h
 have HO:Hid (TreeOk t):=hok
 have HE:Hid (∀ x∈t,x.1.size≤255∧x.2≠0):=checkT_each t none hok.2
 obtain ⟨n,hn⟩:∃ n,n=t.length:=⟨_,rfl⟩
 have HN:Hid (n=t.length∧n≤1024):=hidS ⟨hn,by have:=hok.1;omega⟩
 have e1:decide ((1024:Int)<(n:Int))=false:=decide_eq_false (by have:=hok.1;omega)
 have e2:decide (1024<n)=false:=decide_eq_false (by have:=hok.1;omega)
 have hm:(n:Int) % 65536=(n:Int):=by have:=hok.1;omega
 rw [←hn]at hck ⊢
 clear h hok hn hD
 go_enter Tryz.func67,Tryz.ntmps67
 go_wp2_with (first
  |(go_at_call 144;(with_reducible refine hck.mono ?_);rintro e w2 ⟨rfl,ht2⟩;have T2:Hid (Turned (fun _=>False) w w2):=ht2;have nw:=newWriter_any w2;clear hck ht2)
  |(go_at_call 145;(with_reducible refine nw.mono ?_);rintro e w3 ⟨rfl,hwr,ht3,hsz3⟩;have hu16:=u16_any n w3 hwr (by have:=HN.out;omega) (by simp);have Z3:Hid (w3.heap.size=w2.heap.size+1∧Turned (fun _=>False) w2 w3):=⟨hsz3,ht3⟩;clear nw hwr hsz3 ht3)
  |(go_at_call 146;(with_reducible refine hu16.mono ?_);rintro e w4 ⟨rfl,hwr4,ht4⟩;have Z4:Hid (Turned (fun b=>w2.heap.size≤b) w2 w4):=(Z3.out.2.mono fun _ _ q=>q.elim).trans ht4 fun _ _ q=>q;have W4:Hid (Wr w4 (fun b=>w2.heap.size≤b) w2.heap.size (num n 2)):=hwr4.widen (fun b q=>q.elim id fun q=>by have:=Z3.out.1;omega);clear hu16 hwr4 ht4))
 have HS2:Hid (TeRel w2 t n (.int .i64 0) (.string ⟨#[]⟩) w4):=⟨0,by have:=HN.out;omega,rfl,rfl,by rw [←HN.out.1];simpa [entsB] using W4.out,Z4.out⟩
 go_loopg [6,26] n (fun g lv iv wr=>TeRel w2 t g iv lv wr)
 case atStart=>exact HS2.out
 case round=>
  obtain ⟨i,hig,rfl,rfl,hwq,htq⟩:=hrel
  have W:Hid (Wr wr (fun b=>w2.heap.size≤b) w2.heap.size (num t.length 2 ++ entsB ⟨#[]⟩ (t.take i))):=hwq
  have TQ:Hid (Turned (fun b=>w2.heap.size≤b) w2 wr):=htq
  have GI:Hid (i+gk=t.length):=hig
  clear hwq htq hig HS2 hm
  have hT0:Turned (fun _=>False) w wr:=T2.out.comp TQ.out fun i hi q=>q.elim (fun q=>q) fun q=>by have:=T2.out.size;omega
  have T0:Hid (Turned (fun _=>False) w wr):=hT0
  have HSZ:Hid (w2.heap.size≤wr.heap.size∧w2.heap.size<wr.heap.size):=⟨TQ.out.size,(by obtain ⟨_,_,_,q,_⟩:=W.out;exact lt_of_block q)⟩
  clear hT0
  by_cases hlt:i<n
  ·obtain ⟨x, hx⟩ : ∃ x, t[i]? = some x := ⟨_, List.getElem?_eq_getElem (by have := HN.out.1; omega)⟩
   obtain ⟨g,off,rfl,-,hgl,c0,c1⟩:=ents_at (H.out.turned T0.out fun _ _ q=>q) i x hx
   have HX:Hid (t[i]? = some x):=hx
   have hb:=H.out.2.2.1 x (List.mem_of_getElem? hx)
   have hE:=HE.out x (List.mem_of_getElem? hx)
   have HLT:Hid (i<n):=hlt
   have HW:Hid (wrap64 ((i:Int)+1)=((i+1:Nat):Int)):=hidS (by have:=HLT.out;have:=HN.out.2;simp [wrap64];omega)
   have hd1:decide ((i:Int)<(n:Int))=true:=by simp;omega
   have hd2:decide (i<n)=true:=by simp;omega
   obtain ⟨p,b⟩:=x
   obtain ⟨la,hla⟩:∃ la,la=lastT (t.take i):=⟨_,rfl⟩
   rw [←hla]
   obtain ⟨k,hk⟩:∃ k,k=alike la p:=⟨_,rfl⟩
   have hkl:=alike_le la p
   rw [←hk]at hkl
   have hps:p.size≤255:=hE.1
   have HP:Hid (k≤p.size∧p.size≤255∧b<4294967296):=⟨hkl.2,hps,hb⟩
   have HK:Hid (k=alike la p∧la=lastT (t.take i)∧la.size≤255):=⟨hk,hla,by rw [hla];exact lastT_size (fun x hx=>(HE.out x hx).1) i⟩
   obtain ⟨bx,hbx⟩:∃ bx:World→World,bx=fun W=>W.alloc (.cells #[.string p,.int .u32 (b:Nat)] 96):=⟨_,rfl⟩
   have hak:∀ W,Calls Tryz.prog 147 #[.string la,.string p] W fun e w'=>e = .returned (.int .i64 (k:Nat))∧Turned (fun _=>False) W w':=fun W=>by
    rw [hk];exact alike_any la p W (by have:=HK.out.2.2;omega) (by omega)
   have hm1:(k:Int) % 256=(k:Int):=by omega
   obtain ⟨r,hr⟩:∃ r,r+k=p.size:=⟨p.size - k,by omega⟩
   have HR:Hid (r+k=p.size):=hr
   have e5:(p.size:Int) - (k:Int)=(r:Int):=by omega
   have hr2:r≤255:=by omega
   have hk1:k≤p.size:=hkl.2
   have e6:∀ W,(Instr.slice 9 (.string p) (some (.int .i64 k)) none none).run Tryz.prog W = .ok (.string (p.extract k p.size)) W:=fun W=>by
    have:=run_slice_string_l (P:=Tryz.prog) (w:=W) (t:=9) (s:=p) Tryz.underlying9 .i64 (k:Int) (by omega) (by omega)
    simpa using this
   clear hx hla hk hkl hE hb hbx hr
   obtain ⟨V,hV⟩:∃ V,V=wr.alloc (.cells #[.string p,.int .u32 (b:Nat)] 96):=⟨_,rfl⟩
   have HVV:Hid (V=wr.alloc (.cells #[.string p,.int .u32 (b:Nat)] 96)):=hV
   have HST:Hid (∀ W,Turned (Nox w2.heap.size wr.heap.size) V W→W.cell? ⟨wr.heap.size,0,none⟩=some (.string p)∧W.cell? ⟨wr.heap.size,1,none⟩=some (.int .u32 (b:Nat))∧wr.heap.size<W.heap.size∧w2.heap.size≤W.heap.size):=fun W q=>by
    rw [hV]at q
    obtain ⟨q1,q2⟩:=box_stays q
    exact ⟨cell_of q1 0 _ rfl,cell_of q1 1 _ rfl,q2,by have:=HSZ.out.1;omega⟩
   have WV:Hid (Wr V (Nox w2.heap.size wr.heap.size) w2.heap.size (num t.length 2 ++ entsB ⟨#[]⟩ (t.take i))):=by
    have:=W.out.box (.cells #[.string p,.int .u32 (b:Nat)] 96)
    rw [←hV]at this;exact this
   obtain ⟨bs,hbs⟩:∃ bs,bs=num t.length 2 ++ entsB ⟨#[]⟩ (t.take i):=⟨_,rfl⟩
   have HBS:Hid (bs=num t.length 2 ++ entsB ⟨#[]⟩ (t.take i)∧bs.length≤1000000):=hidS ⟨hbs,by
    rw [hbs,List.length_append,num_length]
    have:=entsB_len (t.take i) ⟨#[]⟩ fun x hx=>(HE.out x (List.mem_of_mem_take hx)).1
    have:=List.length_take_le i t
    have:=HN.out
    omega⟩
   rw [←hbs]at WV
   clear hV hbs
   go_wp2_with (first
    |(go_at_call 147;(with_reducible refine (hak _).mono ?_);rintro e wA ⟨rfl,htA⟩;rw [←HVV.out]at htA;have TA:Hid (Turned (Nox w2.heap.size wr.heap.size) V wA):=Turned.none htA;obtain ⟨a1,a2,a3,a4⟩:=HST.out wA TA.out;have hB:=u8_nox k wA (WV.out.turned htA fun _ _ q=>q) a4 a3 (by have:=HP.out;omega) (by have:=HBS.out.2;omega);clear htA hak)
    |(go_at_call 148;(with_reducible refine hB.mono ?_);rintro e wB ⟨rfl,hwB,htB⟩;have TB:Hid (Turned (Nox w2.heap.size wr.heap.size) V wB):=TA.out.nox htB;obtain ⟨b1,b2,b3,b4⟩:=HST.out wB TB.out;have hC:=u8_nox r wB hwB b4 b3 (by have:=HP.out;have:=HR.out;omega) (by have:=HBS.out.2;simp only [List.length_append,num_length];omega);clear htB hwB hB a1 a2 a3 a4)
    |(go_at_call 148;(with_reducible refine hC.mono ?_);rintro e wC ⟨rfl,hwC,htC⟩;have TC:Hid (Turned (Nox w2.heap.size wr.heap.size) V wC):=TB.out.nox htC;obtain ⟨c1,c2,c3,c4⟩:=HST.out wC TC.out;have hF:=raw_nox (p.extract k p.size) wC hwC c4 c3 (by have:=HBS.out.2;have:=HP.out;simp only [List.length_append,num_length,ByteArray.size_extract];omega);clear htC hwC hC b1 b2 b3 b4)
    |(go_at_call 149;(with_reducible refine hF.mono ?_);rintro e wF ⟨rfl,hwF,htF⟩;have TF:Hid (Turned (Nox w2.heap.size wr.heap.size) V wF):=TC.out.nox htF;obtain ⟨f1,f2,f3,f4⟩:=HST.out wF TF.out;have hG:=u32_nox b wF hwF f4 f3 (by have:=HP.out;omega) (by have:=HBS.out.2;have:=HP.out;simp only [List.length_append,num_length,toList_extract,List.length_take,List.length_drop];omega);clear htF hwF hF c1 c2 c3 c4)
    |(go_at_call 150;(with_reducible refine hG.mono ?_);rintro e wG ⟨rfl,hwG,htG⟩;have TG:Hid (Turned (Nox w2.heap.size wr.heap.size) V wG):=TF.out.nox htG;obtain ⟨g1,g2,g3,g4⟩:=HST.out wG TG.out;have WG:Hid (Wr wG (Nox w2.heap.size wr.heap.size) w2.heap.size (bs ++ entB la (p,b))):=hidS (by rw [←entB_eq b HK.out.1 HR.out,←List.append_assoc,←List.append_assoc,←List.append_assoc];exact hwG);clear htG hG hwG f1 f2 f3 f4))
   go_roundg (gk - 1)
   case measure=>have:=GI.out;have:=HLT.out;have:=HN.out;omega
   case rel=>
    refine ⟨i+1,by have:=GI.out;have:=HLT.out;have:=HN.out;omega,by rw [HW.out],?_,?_,?_⟩
    ·rw [List.take_add_one, HX.out]
     simp [lastT]
    ·rw [List.take_add_one, HX.out]
     show Wr wG _ _ (num t.length 2 ++ entsB ⟨#[]⟩ (t.take i ++ [(p,b)]))
     rw [entsB_app,←List.append_assoc,←HBS.out.1]
     have e:((t.take i).getLast?.map (·.1)).getD ⟨#[]⟩=la:=HK.out.2.1.symm
     rw [e]
     exact WG.out.widen fun b q=>q.1
    ·have z := TG.out
     rw [HVV.out]at z
     exact (TQ.out.new _).trans (z.mono fun b _ q=>q.1) fun _ _ q=>q
  ·have hd1 : decide ((i : Int) < (n : Int)) = false := by simp; omega
   have hd2:decide (i<n)=false:=by simp;omega
   have hby:=bytes_any wr W.out
   have HLT:Hid (n≤i):=hidS (by omega)
   clear hlt
   go_wp2_with (go_at_call 151;(with_reducible refine hby.mono ?_);rintro e w4 ⟨rfl,rfl⟩)
   rw [HD.out]
   refine ⟨?_,T0.out⟩
   rw [HV.out,List.take_of_length_le (by have:=HN.out;have:=HLT.out;omega)]
   rfl
set_option maxHeartbeats 1000000 in
theorem tencode_any {S:Nat→Prop} {a:Option Addr} {cap:Nat} {t:List Ent} (w:World) (h:Ents w S a cap t) (hl:t.length≤1000000000):Calls Tryz.prog 67 #[.slice a t.length cap] w (TePost w t):=by
 by_cases hok:TreeOk t
 ·exact tencode_good w h hok
 obtain ⟨D,hD⟩:∃ D,D=TePost w t:=⟨_,rfl⟩
 have HD:Hid (D=TePost w t):=hD
 rw [←hD]
 obtain ⟨n,hn⟩:∃ n,n=t.length:=⟨_,rfl⟩
 by_cases h1:1024<n
 ·have HV : Hid (encT t = .error 5) := hidS (by unfold encT; rw [if_pos (by omega)])
  have e1:decide ((1024:Int)<(n:Int))=true:=decide_eq_true (by omega)
  have e2:decide (1024<n)=true:=decide_eq_true (by omega)
  rw [←hn]
  clear h hl hn hD hok h1
  go_enter Tryz.func67,Tryz.ntmps67
  go_wp2
  rw [HD.out]
  exact ⟨by rw [HV.out];rfl,Turned.refl _ _⟩
 ·have hc : checkT none t ≠ 0 := fun q => hok ⟨by omega, q⟩
  have HV:Hid (encT t = .error (checkT none t)):=hidS (by unfold encT;rw [if_neg (by omega),if_neg hc])
  have hck:=tcheck_any w h hl
  unfold CtPost at hck
  have e1:decide ((1024:Int)<(n:Int))=false:=decide_eq_false (by omega)
  have e2:decide (1024<n)=false:=decide_eq_false (by omega)
  obtain ⟨k,hk⟩:∃ k,k=checkT none t:=⟨_,rfl⟩
  have HK:Hid (k=checkT none t):=hk
  have e3:((k:Int) == 0)=false:=by simp;omega
  rw [←hn,←hk]at hck
  rw [←hn]
  clear h hl hn hD hok h1 hc hk
  go_enter Tryz.func67,Tryz.ntmps67
  go_wp2_with (go_at_call 144;(with_reducible refine hck.mono ?_);rintro e w2 ⟨rfl,ht2⟩;have T2:Hid (Turned (fun _=>False) w w2):=ht2;clear hck ht2)
  rw [HD.out]
  exact ⟨by rw [HV.out,←HK.out];rfl,T2.out⟩
def cmv (a:Option Addr) (cap:Nat) (c:Cm):Value:=.agg #[.slice a c.par.length cap,.int .i64 c.tree]
theorem in_any (n:Int) (w:World):Calls Tryz.prog 236 #[.int .i64 n] w fun e w'=>e = .returned (.bool (decide (inR n)))∧w=w':=by
 obtain ⟨b,hb⟩:∃ b,b=decide (inR n):=⟨_,rfl⟩
 have HB:Hid (b=decide (inR n)):=hb
 rw [←hb]
 clear hb
 by_cases h1:0≤n
 ·have e1 : decide (0 ≤ n) = true := decide_eq_true h1
  by_cases h2:n<65536
  ·have e2 : decide (n < 65536) = true := decide_eq_true h2
   obtain rfl:true=b:=by rw [HB.out];exact (decide_eq_true ⟨h1,h2⟩).symm
   go_enter Tryz.func236,Tryz.ntmps236
   go_wp2
   go_ret
   exact ⟨rfl,rfl⟩
  ·have e2 : decide (n < 65536) = false := decide_eq_false h2
   obtain rfl:false=b:=by rw [HB.out];exact (decide_eq_false fun q=>h2 q.2).symm
   go_enter Tryz.func236,Tryz.ntmps236
   go_wp2
   go_ret
   exact ⟨rfl,rfl⟩
 ·have e1 : decide (0 ≤ n) = false := decide_eq_false h1
  obtain rfl:false=b:=by rw [HB.out];exact (decide_eq_false fun q=>h1 q.1).symm
  go_enter Tryz.func236,Tryz.ntmps236
  go_wp2
  go_ret
  exact ⟨rfl,rfl⟩
def CcRel (w1:World) (l:List Int) (g:Nat) (iv:Value) (wr:World):Prop:=
 ∃ j:Nat,iv = .int .i64 (j:Nat)∧j+g=l.length∧checkP [] l=checkP (l.take j) (l.drop j)∧w1=wr
def CcPost (w:World) (c:Cm) (e:Ending) (w' : World):Prop:=e = .returned (.int .i64 (checkC c:Nat))∧Turned (fun _=>False) w w'
theorem dropI_at {l:List Int} {i:Nat} {x:Int} (h:l[i]? = some x):l.drop i=x :: l.drop (i+1):=by
 obtain ⟨hl,e⟩:=List.getElem?_eq_some_iff.1 h
 rw [←e]
 exact List.drop_eq_getElem_cons hl
set_option maxHeartbeats 4000000 in
theorem ccheck_any {S:Nat→Prop} {a:Option Addr} {cap:Nat} {c:Cm} (w:World) (h:Ints w S a cap c.par):Calls Tryz.prog 156 #[cmv a cap c] w (CcPost w c):=by
 obtain ⟨D,hD⟩:∃ D,D=CcPost w c:=⟨_,rfl⟩
 have HD:Hid (D=CcPost w c):=hD
 rw [←hD]
 obtain ⟨par,tree⟩:=c
 unfold cmv
 dsimp only at h ⊢
 have HI:Hid (Ints w S a cap par):=h
 obtain ⟨L,hL⟩:∃ L,L=par.length:=⟨_,rfl⟩
 have HL:Hid (L=par.length):=hL
 rw [←hL]
 clear hD h
 by_cases h1:16<L
 ·have e1 : decide ((16 : Int) < (L : Int)) = true := decide_eq_true (by omega)
  have e2:decide (16<L)=true:=decide_eq_true (by omega)
  have HC:Hid (checkC ⟨par,tree⟩=5):=hidS (by unfold checkC;rw [if_pos (by simp only;omega)])
  clear h1 hL
  go_enter Tryz.func156,Tryz.ntmps156
  go_wp2
  rw [HD.out]
  exact ⟨by rw [HC.out];rfl,Turned.alloc _ _ _⟩
 have e1:decide ((16:Int)<(L:Int))=false:=decide_eq_false (by omega)
 have e2:decide (16<L)=false:=decide_eq_false (by omega)
 have H16:Hid (L≤16):=hidS (by omega)
 have hin:=fun W=>in_any tree W
 by_cases h2:inR tree
 ·rw [decide_eq_true h2] at hin
  have HC:Hid (checkC ⟨par,tree⟩=checkP [] par):=hidS (by unfold checkC;rw [if_neg (by simp only;omega),if_neg fun q=>q h2])
  have HS:Hid (CcRel (w.alloc (.cells #[.slice a L cap,.int .i64 tree] 55)) par L (.int .i64 0) (w.alloc (.cells #[.slice a L cap,.int .i64 tree] 55))):=⟨0,rfl,by omega,rfl,rfl⟩
  clear h1 h2 hL
  go_enter Tryz.func156,Tryz.ntmps156
  go_wp2_with (go_at_call 236;(with_reducible refine (hin _).mono ?_);rintro e w2 ⟨rfl,rfl⟩)
  go_loopg [18] L (fun g iv wr=>CcRel (w.alloc (.cells #[.slice a L cap,.int .i64 tree] 55)) par g iv wr)
  case atStart=>exact HS.out
  case round=>
   obtain ⟨j,rfl,hjg,hno,rfl⟩:=hrel
   have G:Hid (j+gk=par.length∧checkP [] par=checkP (par.take j) (par.drop j)):=⟨hjg,hno⟩
   clear hno hjg HS hin
   by_cases hlt:j<L
   ·obtain ⟨p, hp⟩ : ∃ p, par[j]? = some p := ⟨_, List.getElem?_eq_getElem (by rw [← HL.out]; exact hlt)⟩
    obtain ⟨b,off,rfl,hS,hbw,c0⟩:=ints_at HI.out j p hp
    have HW:Hid (wrap64 ((j:Int)+1)=((j+1:Nat):Int)):=hidS (by have:=H16.out;simp [wrap64];omega)
    have HLT:Hid (j<L):=hlt
    have C:Hid (par[j]? = some p):=hp
    have hsl:∀ W,(Instr.slice 41 (.slice (some ⟨b,off,none⟩) L cap) none (some (.int .i64 (j:Nat))) none).run Tryz.prog W = .ok (.slice (some ⟨b,off,none⟩) j cap) W:=fun W=>by
     have:=ints_to HI.out j (by rw [←HL.out];omega) W
     rw [←HL.out]at this
     exact this
    have hcon:Calls Tryz.prog 237 #[.slice (some ⟨b,off,none⟩) j cap,.int .i64 p] (w.alloc (.cells #[.slice (some ⟨b,off,none⟩) L cap,.int .i64 tree] 55)) fun e w'=>e = .returned (.bool (decide (p∈par.take j)))∧(w.alloc (.cells #[.slice (some ⟨b,off,none⟩) L cap,.int .i64 tree] 55))=w':=by
     have:=contains_ints S (some ⟨b,off,none⟩) cap (par.take j) p _ ((HI.out.take j).turned (Turned.alloc (fun _=>False) w (.cells #[.slice (some ⟨b,off,none⟩) L cap,.int .i64 tree] 55)) fun _ _ q=>q)
     rw [List.length_take,Nat.min_eq_left (by rw [←HL.out];omega)]at this
     exact this
    have hne:b≠w.heap.size:=by omega
    have hip:=fun W=>in_any p W
    have e3:decide ((j:Int)<(L:Int))=true:=decide_eq_true (by omega)
    have e4:decide (j<L)=true:=decide_eq_true hlt
    clear hp
    by_cases g1:inR p
    ·rw [decide_eq_true g1] at hip
     have G1:Hid (inR p):=g1
     by_cases g3:p∈par.take j
     ·rw [decide_eq_true g3] at hcon
      have G3:Hid (p∈par.take j):=g3
      clear g1 g3
      go_wp2_with (first
       |(go_at_call 236;(with_reducible refine (hip _).mono ?_);rintro e w2 ⟨rfl,rfl⟩)
       |(go_at_call 237;(with_reducible refine hcon.mono ?_);rintro e w2 ⟨rfl,rfl⟩))
      rw [HD.out]
      exact ⟨by rw [HC.out,G.out.2,dropI_at C.out,checkP,if_neg fun q=>q G1.out,if_pos G3.out];rfl,Turned.alloc _ _ _⟩
     ·rw [decide_eq_false g3] at hcon
      have G3:Hid (p ∉ par.take j):=g3
      clear g1 g3
      go_wp2_with (first
       |(go_at_call 236;(with_reducible refine (hip _).mono ?_);rintro e w2 ⟨rfl,rfl⟩)
       |(go_at_call 237;(with_reducible refine hcon.mono ?_);rintro e w2 ⟨rfl,rfl⟩))
      go_roundg (gk - 1)
      case measure=>have:=G.out;have:=HL.out;have:=HLT.out;omega
      case rel=>exact ⟨j+1,by rw [HW.out],by have:=G.out;have:=HL.out;have:=HLT.out;omega,by rw [G.out.2,dropI_at C.out,checkP,if_neg fun q=>q G1.out,if_neg G3.out,List.take_add_one,C.out];rfl,rfl⟩
    ·rw [decide_eq_false g1] at hip
     have G1:Hid (¬ inR p):=g1
     clear g1 hcon
     go_wp2_with (go_at_call 236;(with_reducible refine (hip _).mono ?_);rintro e w2 ⟨rfl,rfl⟩)
     rw [HD.out]
     exact ⟨by rw [HC.out,G.out.2,dropI_at C.out,checkP,if_pos G1.out];rfl,Turned.alloc _ _ _⟩
   ·have e3 : decide ((j : Int) < (L : Int)) = false := decide_eq_false (by omega)
    have e4:decide (j<L)=false:=decide_eq_false hlt
    have HLT:Hid (L≤j):=hidS (by omega)
    clear hlt
    go_wp2
    rw [HD.out]
    exact ⟨by rw [HC.out,G.out.2,List.drop_eq_nil_of_le (by have:=HL.out;have:=HLT.out;omega),checkP];rfl,Turned.alloc _ _ _⟩
 ·rw [decide_eq_false h2] at hin
  have HC:Hid (checkC ⟨par,tree⟩=1):=hidS (by unfold checkC;rw [if_neg (by simp only;omega),if_pos h2])
  clear h1 h2 hL
  go_enter Tryz.func156,Tryz.ntmps156
  go_wp2_with (go_at_call 236;(with_reducible refine (hin _).mono ?_);rintro e w2 ⟨rfl,rfl⟩)
  rw [HD.out]
  exact ⟨by rw [HC.out];rfl,Turned.alloc _ _ _⟩
theorem checkP_each:∀ (l seen:List Int),checkP seen l=0→∀ p∈l,inR p
 | [],_,_,p,hp=>by simp at hp
 |x :: l,seen,h,p,hp=>by
  rw [checkP]at h
  split at h
  ·omega
  rename_i h1
  split at h
  ·omega
  rcases List.mem_cons.1 hp with rfl|hp
  ·exact Classical.not_not.1 h1
  ·exact checkP_each l _ h p hp
theorem checkC_ok {c:Cm} (h:checkC c=0):c.par.length≤16∧inR c.tree∧∀ p∈c.par,inR p:=by
 unfold checkC at h
 split at h
 ·omega
 split at h
 ·omega
 rename_i h1 h2
 exact ⟨by omega,Classical.not_not.1 h2,checkP_each _ _ h⟩
def parB (l:List Int):List UInt8:=l.flatMap fun p=>num p.toNat 4
theorem parB_len (l:List Int):(parB l).length=4 * l.length:=by
 induction l with
 |nil=>rfl
 |cons x l ih=>rw [show parB (x :: l)=num x.toNat 4 ++ parB l from rfl,List.length_append,num_length,ih,List.length_cons];omega
theorem parB_app (a b:List Int):parB (a ++ b)=parB a ++ parB b:=by simp [parB]
def CeRel (w2:World) (T:Nat) (l:List Int) (g:Nat) (iv:Value) (wr:World):Prop:=
 ∃ j:Nat,iv = .int .i64 (j:Nat)∧j+g=l.length∧Wr wr (fun b=>w2.heap.size≤b) w2.heap.size (num T 4 ++ num l.length 1 ++ parB (l.take j))∧Turned (fun b=>w2.heap.size≤b) w2 wr
def CePost (w:World) (c:Cm) (e:Ending) (w' : World):Prop:=e = .returned (exV (encC c))∧Turned (fun _=>False) w w'
set_option maxHeartbeats 4000000 in
theorem cencode_good {S:Nat→Prop} {a:Option Addr} {cap:Nat} {c:Cm} (w:World) (h:Ints w S a cap c.par) (hok:checkC c=0):Calls Tryz.prog 70 #[cmv a cap c] w (CePost w c):=by
 obtain ⟨D,hD⟩:∃ D,D=CePost w c:=⟨_,rfl⟩
 have HD:Hid (D=CePost w c):=hD
 rw [←hD]
 obtain ⟨h16,htr,hpar⟩:=checkC_ok hok
 have HV:Hid (encC c = .ok (bya (toldC c))):=hidS (by unfold encC;rw [if_pos hok])
 have hck:=fun W (hW:Turned (fun _=>False) w W)=>ccheck_any W (h.turned hW fun _ _ q=>q)
 unfold CcPost at hck
 rw [hok]at hck
 obtain ⟨par,tree⟩:=c
 unfold cmv at hck ⊢
 dsimp only at h hck h16 htr hpar ⊢
 have HI:Hid (Ints w S a cap par):=h
 obtain ⟨L,hL⟩:∃ L,L=par.length:=⟨_,rfl⟩
 have HL:Hid (L=par.length):=hL
 obtain ⟨T,rfl⟩:∃ T:Nat,tree=(T:Int):=⟨tree.toNat,by have:=htr.1;omega⟩
 have HT:Hid (T<65536∧L≤16):=⟨by have:=htr.2;omega,by omega⟩
 have HP:Hid (∀ p∈par,inR p):=hpar
 have hm1:(T:Int) % 4294967296=(T:Int):=by have:=HT.out;omega
 have hm2:(L:Int) % 256=(L:Int):=by have:=HT.out;omega
 rw [←hL]at hck ⊢
 have HCK:Hid (∀ W,Turned (fun _=>False) w W→Calls Tryz.prog 156 #[.agg #[.slice a L cap,.int .i64 (T:Int)]] W fun e w'=>e = .returned (.int .i64 0)∧Turned (fun _=>False) W w'):=hck
 obtain ⟨V,hV⟩:∃ V,V=w.alloc (.cells #[.slice a L cap,.int .i64 (T:Int)] 55):=⟨_,rfl⟩
 have HVV:Hid (V=w.alloc (.cells #[.slice a L cap,.int .i64 (T:Int)] 55)):=hV
 have HST:Hid (∀ W,Turned (fun b=>w.heap.size<b) V W→W.cell? ⟨w.heap.size,0,none⟩=some (.slice a L cap)∧W.cell? ⟨w.heap.size,1,none⟩=some (.int .i64 (T:Int))∧w.heap.size<W.heap.size):=fun W q=>by
  rw [hV]at q
  have hz:(w.alloc (.cells #[.slice a L cap,.int .i64 (T:Int)] 55)).heap.size=w.heap.size+1:=by simp
  have hb:=(q.block w.heap.size (by omega) (by omega)).trans (heap_alloc_new w _)
  exact ⟨cell_of hb 0 _ rfl,cell_of hb 1 _ rfl,lt_of_block hb⟩
 clear h hck h16 htr hpar hD hL hok hV
 go_enter Tryz.func70,Tryz.ntmps70
 go_wp2_with (first
  |(go_at_call 156;(with_reducible refine (HCK.out _ (Turned.alloc _ _ _)).mono ?_);rintro e w2 ⟨rfl,ht2⟩;rw [←HVV.out]at ht2;have T2:Hid (Turned (fun _=>False) V w2):=ht2;obtain ⟨a1,a2,a3⟩:=HST.out w2 ht2.none;have nw:=newWriter_any w2;clear ht2)
  |(go_at_call 145;(with_reducible refine nw.mono ?_);rintro e w3 ⟨rfl,hwr,ht3,hsz3⟩;have T3:Hid (Turned (fun b=>w.heap.size<b) V w3∧w3.heap.size=w2.heap.size+1∧w.heap.size<w2.heap.size):=⟨(Turned.none T2.out).trans (Turned.none ht3) fun _ _ q=>q,hsz3,a3⟩;obtain ⟨b1,b2,b3⟩:=HST.out w3 T3.out.1;have Z3:Hid (Turned (fun b=>w2.heap.size≤b) w2 w3):=Turned.none ht3;have hA:=u32_up T w3 hwr (by omega) (by have:=HT.out;omega) (by simp);clear nw hwr hsz3 ht3 a1 a2 a3)
  |(go_at_call 150;(with_reducible refine hA.mono ?_);rintro e w4 ⟨rfl,hwr4,ht4⟩;have Z4:Hid (Turned (fun b=>w2.heap.size≤b) w2 w4):=Z3.out.trans ht4 fun _ _ q=>q;have T4:Hid (Turned (fun b=>w.heap.size<b) V w4):=T3.out.1.trans ht4 (fun _ _ q=>by have:=T3.out;omega);obtain ⟨c1,c2,c3⟩:=HST.out w4 T4.out;have hB:=u8_up L w4 hwr4 (by have:=Z4.out.size;omega) (by have:=HT.out;omega) (by simp only [List.length_append,num_length,List.length_nil];omega);clear hA hwr4 ht4 b1 b2 b3)
  |(go_at_call 148;(with_reducible refine hB.mono ?_);rintro e w5 ⟨rfl,hwr5,ht5⟩;have Z5:Hid (Turned (fun b=>w2.heap.size≤b) w2 w5):=Z4.out.trans ht5 fun _ _ q=>q;have T5:Hid (Turned (fun b=>w.heap.size<b) V w5):=T4.out.trans ht5 (fun _ _ q=>by have:=T3.out;omega);obtain ⟨f1,f2,f3⟩:=HST.out w5 T5.out;have W5:Hid (Wr w5 (fun b=>w2.heap.size≤b) w2.heap.size (num T 4 ++ num L 1)):=hwr5;clear hB hwr5 ht5 c1 c2 c3))
 have HS:Hid (CeRel w2 T par L (.int .i64 0) w5):=⟨0,rfl,by have:=HL.out;omega,by rw [←HL.out];simpa [parB] using W5.out,Z5.out⟩
 go_loopg [28] L (fun g iv wr=>CeRel w2 T par g iv wr)
 case atStart=>exact HS.out
 case round=>
  obtain ⟨j,rfl,hjg,hwq,htq⟩:=hrel
  have W:Hid (Wr wr (fun b=>w2.heap.size≤b) w2.heap.size (num T 4 ++ num par.length 1 ++ parB (par.take j))):=hwq
  have TQ:Hid (Turned (fun b=>w2.heap.size≤b) w2 wr):=htq
  have G:Hid (j+gk=par.length):=hjg
  have hT0:Turned (fun _=>False) w wr:=by
   have z:=T2.out
   rw [HVV.out]at z
   exact (((Turned.alloc _ _ _).trans z fun _ _ q=>q).comp TQ.out fun i hi q=>q.elim (fun q=>q) fun q=>by have:=T3.out.2.2;omega)
  have T0:Hid (Turned (fun _=>False) w wr):=hT0
  have HSZ:Hid (w2.heap.size≤wr.heap.size):=TQ.out.size
  clear hjg hwq htq hT0 HS hm1 hm2 f1 f2 f3
  by_cases hlt:j<L
  ·obtain ⟨p, hp⟩ : ∃ p, par[j]? = some p := ⟨_, List.getElem?_eq_getElem (by rw [← HL.out]; exact hlt)⟩
   obtain ⟨b,off,rfl,-,hbw,c0⟩:=ints_at (HI.out.turned T0.out fun _ _ q=>q) j p hp
   have hin:=HP.out p (List.mem_of_getElem? hp)
   obtain ⟨m,rfl⟩:∃ m:Nat,p=(m:Int):=⟨p.toNat,by have:=hin.1;omega⟩
   have HM:Hid (m<65536):=hidS (by have:=hin.2;omega)
   have C:Hid (par[j]? = some (m:Int)):=hp
   have HW:Hid (wrap64 ((j:Int)+1)=((j+1:Nat):Int)):=hidS (by have:=HT.out;simp [wrap64];omega)
   have HLT:Hid (j<L):=hlt
   have e3:decide ((j:Int)<(L:Int))=true:=decide_eq_true (by omega)
   have e4:decide (j<L)=true:=decide_eq_true hlt
   have hm3:(m:Int) % 4294967296=(m:Int):=by have:=HM.out;omega
   have hA:=u32_up m wr W.out HSZ.out (by have:=HM.out;omega) (by
    have:=HT.out;have:=HL.out;have:=List.length_take_le j par
    simp only [List.length_append,num_length,parB_len];omega)
   clear hp hin
   go_wp2_with (go_at_call 150;(with_reducible refine hA.mono ?_);rintro e w4 ⟨rfl,hwr4,ht4⟩;have W4:Hid (Wr w4 (fun b=>w2.heap.size≤b) w2.heap.size (num T 4 ++ num par.length 1 ++ parB (par.take j) ++ num m 4)∧Turned (fun b=>w2.heap.size≤b) w2 w4):=⟨hwr4,TQ.out.trans ht4 fun _ _ q=>q⟩;clear hA hwr4 ht4)
   go_roundg (gk - 1)
   case measure=>have:=G.out;have:=HL.out;have:=HLT.out;omega
   case rel=>
    refine ⟨j+1,by rw [HW.out],by have:=G.out;have:=HL.out;have:=HLT.out;omega,?_,W4.out.2⟩
    rw [List.take_add_one,C.out]
    show Wr w4 _ _ (num T 4 ++ num par.length 1 ++ parB (par.take j ++ [(m:Int)]))
    rw [parB_app,←List.append_assoc]
    simpa [parB] using W4.out.1
  ·have e3 : decide ((j : Int) < (L : Int)) = false := decide_eq_false (by omega)
   have e4:decide (j<L)=false:=decide_eq_false hlt
   have hby:=bytes_any wr W.out
   have HLT:Hid (L≤j):=hidS (by omega)
   clear hlt
   go_wp2_with (go_at_call 151;(with_reducible refine hby.mono ?_);rintro e w4 ⟨rfl,rfl⟩)
   rw [HD.out]
   refine ⟨?_,T0.out⟩
   rw [HV.out,List.take_of_length_le (by have:=HL.out;have:=HLT.out;omega)]
   rfl
set_option maxHeartbeats 1000000 in
theorem cencode_any {S:Nat→Prop} {a:Option Addr} {cap:Nat} {c:Cm} (w:World) (h:Ints w S a cap c.par):Calls Tryz.prog 70 #[cmv a cap c] w (CePost w c):=by
 by_cases hok:checkC c=0
 ·exact cencode_good w h hok
 obtain ⟨D,hD⟩:∃ D,D=CePost w c:=⟨_,rfl⟩
 have HD:Hid (D=CePost w c):=hD
 rw [←hD]
 have HV:Hid (encC c = .error (checkC c)):=hidS (by unfold encC;rw [if_neg hok])
 have hck:=fun W (hW:Turned (fun _=>False) w W)=>ccheck_any W (h.turned hW fun _ _ q=>q)
 unfold CcPost at hck
 obtain ⟨k,hk⟩:∃ k,k=checkC c:=⟨_,rfl⟩
 have HK:Hid (k=checkC c):=hk
 have e3:((k:Int) == 0)=false:=by simp;omega
 rw [←hk]at hck
 unfold cmv at hck ⊢
 obtain ⟨L,hL⟩:∃ L,L=c.par.length:=⟨_,rfl⟩
 obtain ⟨T,hT⟩:∃ T,T=c.tree:=⟨_,rfl⟩
 rw [←hL,←hT]at hck ⊢
 have HCK:Hid (∀ W,Turned (fun _=>False) w W→Calls Tryz.prog 156 #[.agg #[.slice a L cap,.int .i64 T]] W fun e w'=>e = .returned (.int .i64 (k:Nat))∧Turned (fun _=>False) W w'):=hck
 clear h hD hok hk hck hL hT
 go_enter Tryz.func70,Tryz.ntmps70
 go_wp2_with (go_at_call 156;(with_reducible refine (HCK.out _ (Turned.alloc _ _ _)).mono ?_);rintro e w2 ⟨rfl,ht2⟩;have T2:Hid (Turned (fun _=>False) w w2):=(Turned.alloc _ _ _).trans ht2 (fun _ _ q=>q);clear ht2)
 rw [HD.out]
 exact ⟨by rw [HV.out,←HK.out];rfl,T2.out⟩
def FePost (w:World) (f:Fr) (e:Ending) (w' : World):Prop:=e = .returned (.tuple #[.string (toldF f),.int .i64 0])∧Turned (fun _=>False) w w'
def frB (f:Fr):List UInt8:=num f.kind 1 ++ num f.body.size 4 ++ f.body.data.toList
theorem toldF_eq (f:Fr):toldF f=⟨(frB f ++ num (Crc.sum (nums ⟨(frB f).toArray⟩)) 4).toArray⟩:=by
 unfold toldF sealB bya frB nums
 simp
set_option maxHeartbeats 4000000 in
theorem fencode_any (f:Fr) (w:World) (h1:1≤f.kind) (h2:f.kind≤255) (h3:f.body.size≤1048576):Calls Tryz.prog 152 #[.agg #[.int .i64 (f.kind:Nat),.string f.body]] w (FePost w f):=by
 obtain ⟨D,hD⟩:∃ D,D=FePost w f:=⟨_,rfl⟩
 have HD:Hid (D=FePost w f):=hD
 rw [←hD]
 obtain ⟨bs,hbs⟩:∃ bs,bs=frB f:=⟨_,rfl⟩
 have HB:Hid (bs=frB f):=hbs
 obtain ⟨k,body⟩:=f
 dsimp only at h1 h2 h3 ⊢
 have HK:Hid (1≤k∧k≤255∧body.size≤1048576):=⟨h1,h2,h3⟩
 have HLB:Hid (bs.length=body.size+5):=hidS (by rw [hbs];simp only [frB,List.length_append,num_length,Array.length_toList];show 1+4+body.size=_;omega)
 obtain ⟨n,hn⟩:∃ n,n=body.size:=⟨_,rfl⟩
 have HN:Hid (n=body.size):=hn
 have e1:decide ((k:Int)<1)=false:=decide_eq_false (by omega)
 have e2:decide (k<1)=false:=decide_eq_false (by omega)
 have e3:decide ((255:Int)<(k:Int))=false:=decide_eq_false (by omega)
 have e4:decide (255<k)=false:=decide_eq_false (by omega)
 have e5:decide ((1048576:Int)<(body.size:Int))=false:=decide_eq_false (by omega)
 have e6:decide (1048576<body.size)=false:=decide_eq_false (by omega)
 have hm1:(k:Int) % 256=(k:Int):=by omega
 have hm2:(body.size:Int) % 4294967296=(body.size:Int):=by omega
 obtain ⟨V,hV⟩:∃ V,V=w.alloc (.cells #[.int .i64 (k:Int),.string body] 229):=⟨_,rfl⟩
 have HVV:Hid (V=w.alloc (.cells #[.int .i64 (k:Int),.string body] 229)):=hV
 have HZ:Hid (V.heap.size=w.heap.size+1):=hidS (by rw [hV];simp)
 have HST:Hid (∀ W,Turned (fun b=>w.heap.size+1≤b) V W→W.cell? ⟨w.heap.size,0,none⟩=some (.int .i64 (k:Int))∧W.cell? ⟨w.heap.size,1,none⟩=some (.string body)∧w.heap.size<W.heap.size∧w.heap.size+1≤W.heap.size):=fun W q=>by
  have hz:=HZ.out
  have hb:=(q.block w.heap.size (by omega) (by omega)).trans (show V.heap[w.heap.size]? = some (.cells #[.int .i64 (k:Int),.string body] 229) by rw [hV];exact heap_alloc_new w _)
  exact ⟨cell_of hb 0 _ rfl,cell_of hb 1 _ rfl,lt_of_block hb,by have:=lt_of_block hb;omega⟩
 have nw:=newWriter_any V
 rw [hV]at nw
 clear h1 h2 h3 hD hbs hn hV
 go_enter Tryz.func152,Tryz.ntmps152
 go_wp2_with (first
  |(go_at_call 145;(with_reducible refine nw.mono ?_);rintro e w3 ⟨rfl,hwr,ht3,hsz3⟩;rw [←HVV.out]at hwr ht3 hsz3;rw [HZ.out]at hwr hsz3;have Z3:Hid (Turned (fun b=>(w.heap.size+1)≤b) V w3):=Turned.none ht3;obtain ⟨a1,a2,a3,a4⟩:=HST.out w3 Z3.out;have hA:=u8_up k w3 hwr a4 (by have:=HK.out;omega) (by simp);clear nw hwr hsz3 ht3)
  |(go_at_call 148;(with_reducible refine hA.mono ?_);rintro e w4 ⟨rfl,hwr4,ht4⟩;have Z4:Hid (Turned (fun b=>(w.heap.size+1)≤b) V w4):=Z3.out.trans ht4 fun _ _ q=>q;obtain ⟨b1,b2,b3,b4⟩:=HST.out w4 Z4.out;have hB:=u32_up body.size w4 hwr4 b4 (by have:=HK.out;omega) (by simp only [List.length_append,num_length,List.length_nil];omega);clear hA hwr4 ht4 a1 a2 a3 a4)
  |(go_at_call 150;(with_reducible refine hB.mono ?_);rintro e w5 ⟨rfl,hwr5,ht5⟩;have Z5:Hid (Turned (fun b=>(w.heap.size+1)≤b) V w5):=Z4.out.trans ht5 fun _ _ q=>q;obtain ⟨c1,c2,c3,c4⟩:=HST.out w5 Z5.out;have hC:=raw_up body w5 hwr5 c4 (by have:=HK.out;simp only [List.length_append,num_length,List.length_nil];omega);clear hB hwr5 ht5 b1 b2 b3 b4)
  |(go_at_call 149;(with_reducible refine hC.mono ?_);rintro e w6 ⟨rfl,hwr6,ht6⟩;have Z6:Hid (Turned (fun b=>(w.heap.size+1)≤b) V w6):=Z5.out.trans ht6 fun _ _ q=>q;have W6:Hid (Wr w6 (fun b=>(w.heap.size+1)≤b) (w.heap.size+1) bs):=hidS (by rw [HB.out];exact hwr6);have hby:=bytes_any w6 W6.out;clear hC hwr6 ht6 c1 c2 c3 c4)
  |(go_at_call 151;(with_reducible refine hby.mono ?_);rintro e w7 ⟨rfl,rfl⟩;have hsum:=sum_one w6.heap.size 0 1 ⟨bs.toArray⟩ (w6.alloc (.cells #[.string ⟨bs.toArray⟩] 9)) (cell_of (heap_alloc_last w6 _) 0 _ rfl) (by simp) (by rw [ba_size];have:=HLB.out;have:=HK.out;omega);clear hby)
  |(go_at_call 124;(with_reducible refine hsum.mono ?_);rintro e w8 ⟨rfl,ht8⟩;have T8:Hid (Turned (fun _=>False) w6 w8):=(Turned.alloc (fun _=>False) w6 _).trans ht8 (fun _ _ q=>q);have hE:=u32_up (Crc.sum (nums ⟨bs.toArray⟩)) w8 (W6.out.turned T8.out fun _ _ q=>q) (by have:=Z6.out.size;have:=T8.out.size;have:=HZ.out;omega) (crcsum_lt _) (by have:=HLB.out;have:=HK.out;omega);clear hsum ht8)
  |(go_at_call 150;(with_reducible refine hE.mono ?_);rintro e w9 ⟨rfl,hwr9,ht9⟩;have Z9:Hid (Turned (fun b=>(w.heap.size+1)≤b) V w9):=(Z6.out.trans (Turned.none T8.out) fun _ _ q=>q).trans ht9 fun _ _ q=>q;have hby2:=bytes_any w9 hwr9;clear hE hwr9 ht9)
  |(go_at_call 151;(with_reducible refine hby2.mono ?_);rintro e w10 ⟨rfl,rfl⟩))
 rw [HD.out]
 refine ⟨by rw [toldF_eq,←HB.out];rfl,?_⟩
 have q:=Z9.out
 rw [HVV.out]at q
 exact (Turned.alloc (fun _=>False) _ _).comp q fun i hi q=>q.elim id fun q=>by omega
def FirRel (w:World) (Q1 Q2:World→Prop) (g:Nat) (iv:Value) (wr:World):Prop:=
 (g=2∧iv = .int .i64 0∧w=wr)∨(g=1∧iv = .int .i64 1∧Q1 wr)∨(g=0∧iv = .int .i64 2∧Q2 wr)
theorem first153_dies {w:World} {g b0 b1 e0:Nat} (hg:w.heap[g]? = some (.cells #[.func (.func 153) #[] #[pt b0,pt b1],.func (.func 154) #[] #[pt e0]] 137)) {Q:World→Prop} {k:Nat} (hk:k≠0)
  (h1:Calls Tryz.prog 153 #[pt b0,pt b1] w fun e w'=>e = .returned (.int .i64 (k:Nat))∧Q w') :
  Calls Tryz.prog 72 #[.slice (some ⟨g,0,none⟩) 2 2] w fun e w'=>e = .returned (.int .i64 (k:Nat))∧Q w':=by
 have c0:w.cell? ⟨g,0,none⟩=some (.func (.func 153) #[] #[pt b0,pt b1]):=cell_of hg 0 _ rfl
 have c1:w.cell? ⟨g,1,none⟩=some (.func (.func 154) #[] #[pt e0]):=cell_of hg 1 _ rfl
 have hlt:=lt_of_block hg
 have e3:((k:Int) == 0)=false:=by simp;omega
 have e4:((k:Int) != 0)=true:=by simp;omega
 have H1:Hid _:=hidS h1
 have B0:Hid (FirRel w (fun _=>False) (fun _=>False) 2 (.int .i64 0) w):=.inl ⟨rfl,rfl,rfl⟩
 clear hg h1 hk
 go_enter Tryz.func72,Tryz.ntmps72
 go_wp2
 go_loopg [8] 2 (fun g iv wr=>FirRel w (fun _=>False) (fun _=>False) g iv wr)
 case atStart=>exact B0.out
 case round=>
  rcases hrel with ⟨rfl,rfl,rfl⟩|⟨rfl,rfl,q⟩|⟨rfl,rfl,q⟩
  ·clear B0
   go_wp2_with (go_at_call 153;(with_reducible refine H1.out.mono ?_);rintro e w' ⟨rfl,q⟩;replace q:Hid _:=hidS q)
   go_ret
   exact ⟨rfl,q.out⟩
  ·exact q.elim
  ·exact q.elim
theorem first153_goes {w:World} {g b0 b1 e0:Nat} (hg:w.heap[g]? = some (.cells #[.func (.func 153) #[] #[pt b0,pt b1],.func (.func 154) #[] #[pt e0]] 137)) {Q Q1:World→Prop} {k:Nat} {T:Nat→Prop} (hT:¬ T g)
  (h1:Calls Tryz.prog 153 #[pt b0,pt b1] w fun e w'=>e = .returned (.int .i64 0)∧Q1 w'∧Turned T w w')
  (h2:∀ w1,Q1 w1→Turned T w w1→Calls Tryz.prog 154 #[pt e0] w1 fun e w'=>e = .returned (.int .i64 (k:Nat))∧Q w') :
  Calls Tryz.prog 72 #[.slice (some ⟨g,0,none⟩) 2 2] w fun e w'=>e = .returned (.int .i64 (k:Nat))∧Q w':=by
 have c0:w.cell? ⟨g,0,none⟩=some (.func (.func 153) #[] #[pt b0,pt b1]):=cell_of hg 0 _ rfl
 have c1:w.cell? ⟨g,1,none⟩=some (.func (.func 154) #[] #[pt e0]):=cell_of hg 1 _ rfl
 have hlt:=lt_of_block hg
 have HB:Hid (∀ w1,Turned T w w1→w1.cell? ⟨g,1,none⟩=some (.func (.func 154) #[] #[pt e0])∧g<w1.heap.size):=fun w1 q=>by
  have:=boxed hg q hT
  exact ⟨cell_of this 1 _ rfl,lt_of_block this⟩
 have H1:Hid _:=hidS h1
 have H2:Hid _:=hidS h2
 obtain ⟨R,hR⟩:∃ R:Ending→World→Prop,R=fun e w'=>e = .returned (.int .i64 (k:Nat))∧Q w':=⟨_,rfl⟩
 have B0:Hid (FirRel w (fun w1=>Q1 w1∧Turned T w w1) (R (.returned (.int .i64 0))) 2 (.int .i64 0) w):=.inl ⟨rfl,rfl,rfl⟩
 have HR:Hid (R=fun e w'=>e = .returned (.int .i64 (k:Nat))∧Q w'):=hR
 rw [←hR]
 clear hg h1 h2 hR hT
 go_enter Tryz.func72,Tryz.ntmps72
 go_wp2
 go_loopg [8] 2 (fun g iv wr=>FirRel w (fun w1=>Q1 w1∧Turned T w w1) (R (.returned (.int .i64 0))) g iv wr)
 case atStart=>exact B0.out
 case round=>
  rcases hrel with ⟨rfl,rfl,rfl⟩|⟨rfl,rfl,q⟩|⟨rfl,rfl,q⟩
  ·clear B0
   go_wp2_with (go_at_call 153;(with_reducible refine H1.out.mono ?_);rintro e w' ⟨rfl,q⟩;replace q:Hid _:=hidS q)
   go_roundg 1
   case measure=>omega
   case rel=>exact .inr (.inl ⟨rfl,rfl,q.out⟩)
  ·have Q0 : Hid (Q1 wr ∧ Turned T w wr) := q
   obtain ⟨d1,d2⟩:=HB.out wr q.2
   clear c0 c1 hlt B0 q
   by_cases hk:k=0
   ·have H3 := H2.out wr Q0.out.1 Q0.out.2
    have HK:Hid (k=0):=hk
    rw [hk]at H3
    clear hk
    go_wp2_with (go_at_call 154;(with_reducible refine H3.mono ?_);rintro e w' ⟨rfl,q⟩;replace q:Hid _:=hidS q)
    go_roundg 0
    case measure=>omega
    case rel=>exact .inr (.inr ⟨rfl,rfl,by rw [HR.out];exact ⟨by rw [HK.out];rfl,q.out⟩⟩)
   ·have H3 := H2.out wr Q0.out.1 Q0.out.2
    have e3:((k:Int) == 0)=false:=by simp;omega
    have e4:((k:Int) != 0)=true:=by simp;omega
    clear hk
    go_wp2_with (go_at_call 154;(with_reducible refine H3.mono ?_);rintro e w' ⟨rfl,q⟩;replace q:Hid _:=hidS q)
    rw [HR.out]
    exact ⟨rfl,q.out⟩
  ·clear B0 c0 c1
   have Q0:Hid (R (.returned (.int .i64 0)) wr):=q
   clear q
   go_wp2
   exact Q0.out
end Go.Proofs.YtofcogekgcgjhaaGreatDoor
