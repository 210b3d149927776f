/- Packed. -/
import Derived.Test.YtofcogekgcgjhaaGreatDoorZzbf
set_option linter.unusedVariables false
set_option linter.unusedSimpArgs false
set_option maxRecDepth 100000
namespace Go.Proofs.YtofcogekgcgjhaaGreatDoor
open Go.RowKit Go.Mine Go.Mine.Ac
theorem addCommit_dead {D:Dk} {s:St} {c:Cm} (h1:s.dead=true):addCommit D s c=(D,s,0,8):=by unfold addCommit;rw [h1];rfl
theorem addCommit_err {D:Dk} {s:St} {c:Cm} {k:Nat} (h1:s.dead=false) (h:encC c = .error k):addCommit D s c=(D,s,0,k):=by unfold addCommit;rw [h1,h];rfl
theorem addCommit_unk {D:Dk} {s:St} {c:Cm} {b:ByteArray} (h1:s.dead=false) (h:encC c = .ok b) (hk:knownS s c=false):addCommit D s c=(D,s,0,9):=by
  unfold addCommit;rw [h1,h];simp only [Bool.false_eq_true,if_false];rw [if_pos hk]
theorem addCommit_full {D:Dk} {s:St} {c:Cm} {b:ByteArray} (h1:s.dead=false) (h:encC c = .ok b) (hk:knownS s c=true) (h2:65536≤s.commits.length):addCommit D s c=(D,s,0,7):=by
  unfold addCommit;rw [h1,h];simp only [Bool.false_eq_true,if_false];rw [if_neg (by rw [hk];decide),if_pos h2]
theorem addCommit_bad {D D1:Dk} {s s1:St} {c:Cm} {b:ByteArray} {k:Nat} (h1:s.dead=false) (h:encC c = .ok b) (hk:knownS s c=true) (h2:¬ 65536≤s.commits.length) (h3:writeS D s 2 b=(D1,s1,k)) (hk0:k≠0):addCommit D s c=(D1,s1,0,k):=by
  unfold addCommit;rw [h1,h];simp only [Bool.false_eq_true,if_false];rw [if_neg (by rw [hk];decide),if_neg h2,h3]
  cases k with
  |zero=>exact absurd rfl hk0
  |succ k=>rfl
theorem addCommit_good {D D1:Dk} {s s1:St} {c:Cm} {b:ByteArray} (h1:s.dead=false) (h:encC c = .ok b) (hk:knownS s c=true) (h2:¬ 65536≤s.commits.length) (h3:writeS D s 2 b=(D1,s1,0)):addCommit D s c=(D1,{ s1 with commits:=s1.commits ++ [c] },((s1.commits.length:Nat):Int),0):=by
  unfold addCommit;rw [h1,h];simp only [Bool.false_eq_true,if_false];rw [if_neg (by rw [hk];decide),if_neg h2,h3];rfl
set_option maxHeartbeats 2000000 in
theorem saddCommit_any {w:World} {SD S:Nat→Prop} {d p:Nat} {D:Dk} {rs:Nat→Nat} {tv cv:Value} {s:St} {a:Option Addr} {cap:Nat} {c:Cm} (hD:FsIs w SD d D) (hok:D.Ok) (h:StAt 140 w rs p (pt d) tv cv s) (hdis:∀ b,SD b→rs b=0) (hbd:∀ b,SD b→b<w.heap.size)
    (hi:Ints w S a cap c.par) (hS:∀ b,S b→¬ SD b∧rs b=0) (htl:c.par.length≤1000000000) :
    Calls Tryz.prog 22 #[pt p,cmv a cap c] w (AtPost w SD rs d p (addCommit D s c)):=by
  obtain ⟨Z,hZ⟩:∃ Z,Z=AtPost w SD rs d p (addCommit D s c):=⟨_,rfl⟩
  have HZ:Hid (Z=AtPost w SD rs d p (addCommit D s c)):=hZ
  rw [←hZ]
  obtain ⟨N,hN⟩:∃ N,N=c.par.length:=⟨_,rfl⟩
  obtain ⟨ct,hct⟩:∃ ct,ct=c.tree:=⟨_,rfl⟩
  have hcm:cmv a cap c = .agg #[.slice a N cap,.int .i64 ct]:=by rw [hN,hct];rfl
  rw [hcm]
  obtain ⟨V,hV⟩:∃ V,V=w.alloc (.cells #[.slice a N cap,.int .i64 ct] 55):=⟨_,rfl⟩
  have HVV:Hid (V=w.alloc (.cells #[.slice a N cap,.int .i64 ct] 55)):=hV
  have tV:Turned (fun _=>False) w V:=by rw [hV];exact Turned.alloc _ _ _
  have xV:V.heap[w.heap.size]? = some (.cells #[.slice a N cap,.int .i64 ct] 55):=by rw [hV];exact heap_alloc_new _ _
  have hpp:=h.r1
  have hlp:=h.bnd p (by omega)
  have HBX:Hid (∀ W,Turned (fun b=>SD b∨b=p) V W→W.cell? ⟨w.heap.size,0,none⟩=some (.slice a N cap)∧W.cell? ⟨w.heap.size,1,none⟩=some (.int .i64 ct)∧w.heap.size<W.heap.size):=fun W q=>by
    have hb := boxed xV q (fun z => by rcases z with z | z; · have := hbd _ z; omega
                                       · omega)
    exact ⟨cell_of hb 0 _ rfl,cell_of hb 1 _ rfl,lt_of_block hb⟩
  have b0:=HBX.out V (Turned.refl _ _)
  have hop:Calls Tryz.prog 66 #[pt p] V fun e w'=>e = .returned (.int .i64 (if s.dead then 8 else 0))∧V=w':=sopen_any (h.turned tV fun _ _ q=>q)
  have STAY:Hid (∀ w',Turned (fun _=>False) V w'→AdTo w SD rs d p D s w'):=fun w' q=>AdTo.stay hD h hdis hbd (tV.trans q fun _ _ z=>z)
  have NONE:Hid (∀ W,Turned (fun _=>False) V W→Turned (fun b=>SD b∨b=p) V W):=fun W q=>q.mono fun _ _ z=>z.elim
  cases hdead:s.dead with
  |true=>
    have HC:Hid (addCommit D s c=(D,s,0,8)):=addCommit_dead hdead
    rw [hdead]at hop
    rw [hV]at hop STAY
    clear hD hok h hdis hbd hi hS htl hZ hN hct hcm tV xV hpp hdead b0 HBX NONE hV
    go_enter Tryz.func22,Tryz.ntmps22
    go_wp2_with (go_at_call 66;(with_reducible refine hop.mono ?_);rintro e w1 ⟨rfl,rfl⟩)
    rw [HZ.out]
    exact ⟨by rw [HC.out];rfl,by rw [HC.out];exact STAY.out _ (Turned.refl _ _)⟩
  |false=>
    rw [hdead]at hop
    have hen:=cencode_any V (hi.turned tV fun _ _ q=>q)
    unfold CePost at hen
    rw [hcm]at hen
    cases he:encC c with
    |error k=>
      have HC:Hid (addCommit D s c=(D,s,0,k)):=addCommit_err hdead he
      rw [he]at hen
      have hk:=encC_err he
      have e3:((k:Int) == 0)=false:=by simp;omega
      have e4:((k:Int) != 0)=true:=by simp;omega
      unfold exV at hen
      dsimp only at hen
      rw [hV]at hop STAY hen b0
      clear hD hok h hdis hbd hi hS htl hZ hN hct hcm tV xV hpp hdead hV he hk HBX NONE
      obtain ⟨b1,b2,b3⟩:=b0
      go_enter Tryz.func22,Tryz.ntmps22
      go_wp2_with (first|(go_at_call 66;(with_reducible refine hop.mono ?_);rintro e w1 ⟨rfl,rfl⟩)|(go_at_call 70;(with_reducible refine hen.mono ?_);rintro e w1 ⟨rfl,q⟩;replace q:Hid _:=hidS q))
      rw [HZ.out]
      exact ⟨by rw [HC.out];rfl,by rw [HC.out];exact STAY.out _ q.out⟩
    |ok body=>
      rw [he]at hen
      unfold exV at hen
      dsimp only at hen
      have HEN:Hid (Calls Tryz.prog 70 #[.agg #[.slice a N cap,.int .i64 ct]] V fun e w'=>e = .returned (.tuple #[.string body,.int .i64 0])∧Turned (fun _=>False) V w'):=hen
      have HKN:Hid (∀ W,Turned (fun _=>False) V W→Calls Tryz.prog 71 #[pt p,.agg #[.slice a N cap,.int .i64 ct]] W fun e w'=>e = .returned (.bool (knownS s c))∧Turned (fun _=>False) V w'):=fun W q=>by
        have t0:Turned (fun _=>False) w W:=tV.trans q fun _ _ z=>z
        have:=sknown_any (h.turned t0 fun _ _ z=>z) (hi.turned t0 fun _ _ z=>z) (c:=c)
        rw [hcm]at this
        exact this.mono fun e w' ⟨x,y⟩=>⟨x,q.trans y fun _ _ z=>z⟩
      obtain ⟨tvs,hts,htr⟩:=h.commits
      obtain ⟨ta,tcap,rfl,-,-⟩:=hts.value
      obtain ⟨n,hn⟩:∃ n,n=s.commits.length:=⟨_,rfl⟩
      have C1:Hid (∀ W,Turned (fun _=>False) V W→W.cell? ⟨p,2,none⟩=some (.slice ta n tcap)∧p<W.heap.size):=fun W q=>by
        have hb:=(h.turned (tV.trans q fun _ _ z=>z) fun _ _ z=>z).blk
        rw [←hn]at hb
        exact ⟨cell_of hb 2 _ rfl,lt_of_block hb⟩
      cases hkn:knownS s c with
      |false=>
        have HC:Hid (addCommit D s c=(D,s,0,9)):=addCommit_unk hdead he hkn
        rw [hkn]at HKN
        have HB2:Hid (∀ W,Turned (fun _=>False) V W→W.cell? ⟨w.heap.size,0,none⟩=some (.slice a N cap)∧W.cell? ⟨w.heap.size,1,none⟩=some (.int .i64 ct)∧w.heap.size<W.heap.size):=fun W q=>HBX.out W (NONE.out W q)
        clear hD hok h hdis hbd hi hS htl hZ hN hct hcm tV xV hpp hdead hV he HBX NONE hen hts htr hn hkn C1
        obtain ⟨b1,b2,b3⟩:=b0
        go_enter Tryz.func22,Tryz.ntmps22
        go_wp2_with fail
        rw [←HVV.out]
        go_wp2_with (first|(go_at_call 66;(with_reducible refine hop.mono ?_);rintro e w1 ⟨rfl,rfl⟩)|(go_at_call 70;(with_reducible refine HEN.out.mono ?_);rintro e w1 ⟨rfl,q⟩;obtain ⟨x1,x2,x3⟩:=HB2.out w1 q;replace q:Hid _:=hidS q)|(go_at_call 71;(with_reducible refine (HKN.out _ q.out).mono ?_);rintro e w2 ⟨rfl,q2⟩;replace q2:Hid _:=hidS q2))
        rw [HZ.out]
        exact ⟨by rw [HC.out];rfl,by rw [HC.out];exact STAY.out _ q2.out⟩
      |true=>
        rw [hkn]at HKN
        have HB2:Hid (∀ W,Turned (fun _=>False) V W→W.cell? ⟨w.heap.size,0,none⟩=some (.slice a N cap)∧W.cell? ⟨w.heap.size,1,none⟩=some (.int .i64 ct)∧w.heap.size<W.heap.size):=fun W q=>HBX.out W (NONE.out W q)
        by_cases hfull:65536≤n
        · have HC : Hid (addCommit D s c = (D, s, 0, 7)) := addCommit_full hdead he hkn (by rw [← hn]; exact hfull)
          have d1:decide ((65536:Int)≤(n:Int))=true:=by simp;omega
          have d2:decide (65536≤n)=true:=by simp;omega
          clear hD hok h hdis hbd hi hS htl hZ hN hct hcm tV xV hpp hdead hV he HBX NONE hen hts htr hn hkn hfull
          obtain ⟨b1,b2,b3⟩:=b0
          go_enter Tryz.func22,Tryz.ntmps22
          go_wp2_with fail
          rw [←HVV.out]
          go_wp2_with (first|(go_at_call 66;(with_reducible refine hop.mono ?_);rintro e w1 ⟨rfl,rfl⟩)|(go_at_call 70;(with_reducible refine HEN.out.mono ?_);rintro e w1 ⟨rfl,q⟩;obtain ⟨x1,x2,x3⟩:=HB2.out w1 q;replace q:Hid _:=hidS q)|(go_at_call 71;(with_reducible refine (HKN.out _ q.out).mono ?_);rintro e w2 ⟨rfl,q2⟩;obtain ⟨k1,k2⟩:=C1.out _ q2;replace q2:Hid _:=hidS q2))
          rw [HZ.out]
          exact ⟨by rw [HC.out];rfl,by rw [HC.out];exact STAY.out _ q2.out⟩
        · have hb := encC_size he
          obtain ⟨D1,s1,K,hwr⟩:∃ D1 s1 K,writeS D s 2 body=(D1,s1,K):=⟨_,_,_,rfl⟩
          have hst:=writeS_trees D s 2 body
          have HW:Hid (∀ w1,Turned (fun _=>False) V w1→Calls Tryz.prog 68 #[pt p,.int .i64 2,.string body] w1 fun e w'=>e = .returned (.int .i64 (K:Nat))∧WrTo w SD d p rs tv (.slice ta n tcap) D1 s1 w'∧Turned (fun b=>SD b∨b=p) V w'):=fun w1 qV=>by
            have q:Turned (fun _=>False) w w1:=tV.trans qV fun _ _ z=>z
            have:=swrite_any (hD.turned q fun _ _ z=>z) hok (h.turned q fun _ _ z=>z) hdis (fun b hb=>Nat.lt_of_lt_of_le (hbd b hb) q.size) 2 body (by omega) (by omega) (by omega) (by rw [toldF_size];omega)
            rw [hwr]at this
            refine this.mono fun e w' ⟨x,y⟩=>⟨x,by rw [hn];exact y.after q,?_⟩
            obtain ⟨_,_,_,_,_,y⟩:=y
            exact qV.comp y fun i _ z=>z.elim False.elim id
          rw [hwr]at hst
          obtain ⟨hst1,hst2⟩:=hst
          dsimp only at hst1 hst2
          have d1:decide ((65536:Int)≤(n:Int))=false:=by simp;omega
          have d2:decide (65536≤n)=false:=by simp;omega
          by_cases hK:K=0
          · subst hK
            have HC:Hid (addCommit D s c=(D1,{ s1 with commits:=s1.commits ++ [c] },((s1.commits.length:Nat):Int),0)):=addCommit_good hdead he hkn (by rw [←hn];exact hfull) hwr
            have hn1:s1.commits.length=n:=by rw [hst2,hn]
            have HN:Hid (s1.commits.length=n):=hn1
            have HX:Hid (∀ w2,WrTo w SD d p rs tv (.slice ta n tcap) D1 s1 w2→Turned (fun b=>SD b∨b=p) w w2∧w2.cell? ⟨p,2,none⟩=some (.slice ta n tcap)∧p<w2.heap.size):=fun w2 q=>by
              obtain ⟨S1,g1,g2,g3,g4,g5⟩:=q
              exact ⟨g5,cell_of g4.blk 2 _ rfl,lt_of_block g4.blk⟩
            have hSp:∀ b,S b→¬ (SD b∨b=p):=fun b hb q=>q.elim (hS b hb).1 fun q=>by have:=(hS b hb).2;rw [q,hpp]at this;omega
            have hSl:∀ {w2},Turned (fun b=>SD b∨b=p) w w2→Sl w2 (fun b=>rs b=3) 55 2 (.slice ta n tcap) tvs n:=fun q=>by
              rw [hn]
              refine hts.turned q fun b hb z=>?_
              rcases z with z|z
              · have:=hdis b z;omega
              · rw [z,hpp]at hb;omega
            have HCL:Hid (∀ w2 W,Turned (fun b=>SD b∨b=p) w w2→Turned (fun _=>False) w2 W→Calls Tryz.prog 65 #[.slice a N cap] W fun e w'=>∃ v,e = .returned v∧Sl w' (fun b=>w2.heap.size≤b) 3 1 v (ic c.par) N∧Turned (fun _=>False) w2 w'):=fun w2 W q2 q=>by
              have he2:Ints W S a cap c.par:=(hi.turned q2 hSp).turned q fun _ _ z=>z
              rw [hN]
              refine (clone_ints (a:=a) (n:=c.par.length) (cap:=cap) (xs:=ic c.par) W (fun w' z=>ints_src (he2.turned z fun _ _ y=>y)) (fun z=>by subst z;exact ints_nil he2) htl).mono fun e w' ⟨v,x1,x2,x3⟩=>⟨v,x1,x2.widen fun b hb=>Nat.le_trans q.size hb,q.trans x3 fun _ _ z=>z⟩
            have HSL:Hid (∀ w2 W,Turned (fun b=>SD b∨b=p) w w2→Turned (fun _=>False) w2 W→Sl W (fun b=>rs b=3) 55 2 (.slice ta n tcap) tvs n):=fun w2 W q2 q=>(hSl q2).turned q fun _ _ z=>z
            have HP4:Hid (∀ w2 w3 w4,Turned (fun _=>False) w2 w3→Turned (fun b=>rs b=3) w3 w4→WrTo w SD d p rs tv (.slice ta n tcap) D1 s1 w2→w4.cell? ⟨p,2,none⟩=some (.slice ta n tcap)∧w4.frozen? ⟨p,2,none⟩=false∧p<w4.heap.size):=fun w2 w3 w4 q3 q4 z=>by
              obtain ⟨S1,g1,g2,g3,g4,g5⟩:=z
              have hb:=boxed (boxed g4.blk q3 id) q4 (by rw [hpp];decide)
              exact ⟨cell_of hb 2 _ rfl,free_of hb 2,lt_of_block hb⟩
            have DONE:Hid (∀ w2 w3 W3 w4 v v',WrTo w SD d p rs tv (.slice ta n tcap) D1 s1 w2→Turned (fun _=>False) w2 w3→Sl w3 (fun b=>w2.heap.size≤b) 3 1 v (ic c.par) N→Turned (fun _=>False) w3 W3→Turned (fun b=>rs b=3) W3 w4→Sl w4 (More (fun b=>rs b=3) W3) 55 2 v' (tvs ++ [v,.int .i64 ct]) (n+1) →
                AdTo w SD rs d p D1 { s1 with commits:=s1.commits ++ [c] } (w4.setCell ⟨p,2,none⟩ v')):=fun w2 w3 W3 w4 v v' q1 q2 q3 q4 q5 q6=>by
              have hT:Turned (fun b=>SD b∨b=p) w w2:=by obtain ⟨_,_,_,_,_,z⟩:=q1;exact z
              refine commit_done q1 hdis h.bnd hi.2.2.1 (by rw [hn1];exact hSl hT) (fun i u hu=>?_) q2 (by rw [←hN];exact q3) q4 q5 (by rw [hn1,←hct];exact q6)
              rw [hst2]at hu
              obtain ⟨a',cap',e1,e3,e2⟩:=htr i u hu
              refine ⟨a',cap',e1,e3,e2.turned hT fun b hb z=>?_⟩
              rcases z with z|z
              · have:=hdis b z;omega
              · rw [z,hpp]at hb;omega
            have m1:Hid (n+1≤maxLen∧(n+1) * 32≤140737488355328):=hidS ⟨by simp only [maxLen];omega,by omega⟩
            have HWW:Hid (wrap64 ((n:Nat):Int)=(n:Int)):=hidS (by simp only [wrap64];omega)
            clear hD hok h hdis hbd hi hS htl hZ hN hct hcm tV xV hpp hdead hV he NONE hen hts htr hn hkn hfull hb hst1 hst2 hwr hn1 hSp hSl
            obtain ⟨b1,b2,b3⟩:=b0
            go_enter Tryz.func22,Tryz.ntmps22
            go_wp2_with fail
            rw [←HVV.out]
            go_wp2_with (first|(go_at_call 66;(with_reducible refine hop.mono ?_);rintro e w1 ⟨rfl,rfl⟩)|(go_at_call 70;(with_reducible refine HEN.out.mono ?_);rintro e w1 ⟨rfl,q⟩;obtain ⟨x1,x2,x3⟩:=HB2.out w1 q;replace q:Hid _:=hidS q)|(go_at_call 71;(with_reducible refine (HKN.out _ q.out).mono ?_);rintro e w2 ⟨rfl,q2⟩;obtain ⟨k1,k2⟩:=C1.out _ q2;replace q2:Hid _:=hidS q2)|(go_at_call 68;(with_reducible refine (HW.out _ q2.out).mono ?_);rintro e w3 ⟨rfl,z,tz⟩;obtain ⟨f1,f2,f3⟩:=HBX.out w3 tz;obtain ⟨y1,y2,y3⟩:=HX.out _ z;replace y1:Hid _:=hidS y1;replace tz:Hid _:=hidS tz;replace z:Hid _:=hidS z;clear b1 b2 b3 x1 x2 x3 k1 k2 hlp))
            go_region_law ((first|(go_simp;go_at_call 65;(first|(with_reducible refine (HCL.out _ _ y1.out (Turned.refl _ _)).mono ?_)|(with_reducible refine (HCL.out _ _ y1.out (Turned.drew _ _)).mono ?_));rintro e w4 ⟨v,rfl,hsl,ht⟩;obtain ⟨ca,cc,rfl,-,-⟩:=hsl.value;obtain ⟨u1,u2,u3⟩:=HP4.out w3 w4 w4 ht (Turned.refl _ _) z.out;obtain ⟨g1,g2,g3⟩:=HBX.out w4 (tz.out.comp ht (fun _ _ q=>q.elim id False.elim));have Y:Hid (Sl w4 (fun b=>w3.heap.size≤b) 3 1 (.slice ca N cc) (ic c.par) N∧Turned (fun _=>False) w3 w4):=⟨hsl,ht⟩;clear hsl ht)|(refine step_append (by rfl) _ _ 76 76 (by rfl) (HSL.out w3 _ y1.out (Y.out.2.new _)) Tryz.underlying76 info55 rfl (by decide) (by rfl) (.slice (some ⟨w4.heap.size,0,none⟩) 1 1) (by rfl) (src_new 55 Tryz.underlying76 [.slice ca N cc,.int .i64 ct] (by simp [Value.oneCell']) w4) m1.out.1 m1.out.2 ?_;intro v' w5 hsl4 ht4;obtain ⟨a4,c4,rfl,-,-⟩:=hsl4.value;obtain ⟨y4,y5,y6⟩:=HP4.out w3 _ w5 (Y.out.2.new _) ht4 z.out;have Y4:Hid _:=hidS (DONE.out w3 w4 _ w5 _ _ z.out Y.out.2 Y.out.1 (Turned.alloc _ _ _) ht4 hsl4);clear hsl4 ht4)))
            all_goals go_wp2
            all_goals rw [HZ.out]
            all_goals exact ⟨by rw [HC.out];dsimp only;rw [HN.out];exact congrArg (fun i:Int=>Ending.returned (.tuple #[.int .i64 i,.int .i64 0])) HWW.out,by rw [HC.out];exact Y4.out⟩
          · have HC : Hid (addCommit D s c = (D1, s1, 0, K)) := addCommit_bad hdead he hkn (by rw [← hn]; exact hfull) hwr hK
            have AD:Hid (∀ w',WrTo w SD d p rs tv (.slice ta n tcap) D1 s1 w'→AdTo w SD rs d p D1 s1 w'):=fun w' q=>q.ad hdis h.bnd
            have e3:((K:Int) == 0)=false:=by simp;omega
            have e4:((K:Int) != 0)=true:=by simp;omega
            clear hD hok h hdis hbd hi hS htl hZ hN hct hcm tV xV hpp hdead hV he HBX NONE hen hts htr hn hkn hfull hb hst1 hst2 hwr hK
            obtain ⟨b1,b2,b3⟩:=b0
            go_enter Tryz.func22,Tryz.ntmps22
            go_wp2_with fail
            rw [←HVV.out]
            go_wp2_with (first|(go_at_call 66;(with_reducible refine hop.mono ?_);rintro e w1 ⟨rfl,rfl⟩)|(go_at_call 70;(with_reducible refine HEN.out.mono ?_);rintro e w1 ⟨rfl,q⟩;obtain ⟨x1,x2,x3⟩:=HB2.out w1 q;replace q:Hid _:=hidS q)|(go_at_call 71;(with_reducible refine (HKN.out _ q.out).mono ?_);rintro e w2 ⟨rfl,q2⟩;obtain ⟨k1,k2⟩:=C1.out _ q2;replace q2:Hid _:=hidS q2)|(go_at_call 68;(with_reducible refine (HW.out _ q2.out).mono ?_);rintro e w3 ⟨rfl,z,-⟩;replace z:Hid _:=hidS z))
            rw [HZ.out]
            exact ⟨by rw [HC.out];rfl,by rw [HC.out];exact AD.out _ z.out⟩
theorem first73_dies {w:World} {g b0 e0:Nat} (hg:w.heap[g]? = some (.cells #[.func (.func 73) #[] #[pt b0],.func (.func 74) #[pt e0] #[]] 137)) {Q:World→Prop} {k:Nat} (hk:k≠0)
  (h1:Calls Tryz.prog 73 #[pt b0] w fun e w'=>e = .returned (.int .i64 (k:Nat))∧Q w') :
  Calls Tryz.prog 72 #[.slice (some ⟨g,0,none⟩) 2 2] w fun e w'=>e = .returned (.int .i64 (k:Nat))∧Q w':=by
 have c0:w.cell? ⟨g,0,none⟩=some (.func (.func 73) #[] #[pt b0]):=cell_of hg 0 _ rfl
 have c1:w.cell? ⟨g,1,none⟩=some (.func (.func 74) #[pt e0] #[]):=cell_of hg 1 _ rfl
 have hlt:=lt_of_block hg
 have e3:((k:Int) == 0)=false:=by simp;omega
 have e4:((k:Int) != 0)=true:=by simp;omega
 have H1:Hid _:=hidS h1
 have B0:Hid (FirRel w (fun _=>False) (fun _=>False) 2 (.int .i64 0) w):=.inl ⟨rfl,rfl,rfl⟩
 clear hg h1 hk
 go_enter Tryz.func72,Tryz.ntmps72
 go_wp2
 go_loopg [8] 2 (fun g iv wr=>FirRel w (fun _=>False) (fun _=>False) g iv wr)
 case atStart=>exact B0.out
 case round=>
  rcases hrel with ⟨rfl,rfl,rfl⟩|⟨rfl,rfl,q⟩|⟨rfl,rfl,q⟩
  ·clear B0
   go_wp2_with (go_at_call 73;(with_reducible refine H1.out.mono ?_);rintro e w' ⟨rfl,q⟩;replace q:Hid _:=hidS q)
   go_ret
   exact ⟨rfl,q.out⟩
  ·exact q.elim
  ·exact q.elim
theorem first73_goes {w:World} {g b0 e0:Nat} (hg:w.heap[g]? = some (.cells #[.func (.func 73) #[] #[pt b0],.func (.func 74) #[pt e0] #[]] 137)) {Q Q1:World→Prop} {k:Nat} {T:Nat→Prop} (hT:¬ T g)
  (h1:Calls Tryz.prog 73 #[pt b0] w fun e w'=>e = .returned (.int .i64 0)∧Q1 w'∧Turned T w w')
  (h2:∀ w1,Q1 w1→Turned T w w1→Calls Tryz.prog 74 #[pt e0] w1 fun e w'=>e = .returned (.int .i64 (k:Nat))∧Q w') :
  Calls Tryz.prog 72 #[.slice (some ⟨g,0,none⟩) 2 2] w fun e w'=>e = .returned (.int .i64 (k:Nat))∧Q w':=by
 have c0:w.cell? ⟨g,0,none⟩=some (.func (.func 73) #[] #[pt b0]):=cell_of hg 0 _ rfl
 have c1:w.cell? ⟨g,1,none⟩=some (.func (.func 74) #[pt e0] #[]):=cell_of hg 1 _ rfl
 have hlt:=lt_of_block hg
 have HB:Hid (∀ w1,Turned T w w1→w1.cell? ⟨g,1,none⟩=some (.func (.func 74) #[pt e0] #[])∧g<w1.heap.size):=fun w1 q=>by
  have:=boxed hg q hT
  exact ⟨cell_of this 1 _ rfl,lt_of_block this⟩
 have H1:Hid _:=hidS h1
 have H2:Hid _:=hidS h2
 obtain ⟨R,hR⟩:∃ R:Ending→World→Prop,R=fun e w'=>e = .returned (.int .i64 (k:Nat))∧Q w':=⟨_,rfl⟩
 have B0:Hid (FirRel w (fun w1=>Q1 w1∧Turned T w w1) (R (.returned (.int .i64 0))) 2 (.int .i64 0) w):=.inl ⟨rfl,rfl,rfl⟩
 have HR:Hid (R=fun e w'=>e = .returned (.int .i64 (k:Nat))∧Q w'):=hR
 rw [←hR]
 clear hg h1 h2 hR hT
 go_enter Tryz.func72,Tryz.ntmps72
 go_wp2
 go_loopg [8] 2 (fun g iv wr=>FirRel w (fun w1=>Q1 w1∧Turned T w w1) (R (.returned (.int .i64 0))) g iv wr)
 case atStart=>exact B0.out
 case round=>
  rcases hrel with ⟨rfl,rfl,rfl⟩|⟨rfl,rfl,q⟩|⟨rfl,rfl,q⟩
  ·clear B0
   go_wp2_with (go_at_call 73;(with_reducible refine H1.out.mono ?_);rintro e w' ⟨rfl,q⟩;replace q:Hid _:=hidS q)
   go_roundg 1
   case measure=>omega
   case rel=>exact .inr (.inl ⟨rfl,rfl,q.out⟩)
  ·have Q0 : Hid (Q1 wr ∧ Turned T w wr) := q
   obtain ⟨d1,d2⟩:=HB.out wr q.2
   clear c0 c1 hlt B0 q
   by_cases hk:k=0
   ·have H3 := H2.out wr Q0.out.1 Q0.out.2
    have HK:Hid (k=0):=hk
    rw [hk]at H3
    clear hk
    go_wp2_with (go_at_call 74;(with_reducible refine H3.mono ?_);rintro e w' ⟨rfl,q⟩;replace q:Hid _:=hidS q)
    go_roundg 0
    case measure=>omega
    case rel=>exact .inr (.inr ⟨rfl,rfl,by rw [HR.out];exact ⟨by rw [HK.out];rfl,q.out⟩⟩)
   ·have H3 := H2.out wr Q0.out.1 Q0.out.2
    have e3:((k:Int) == 0)=false:=by simp;omega
    have e4:((k:Int) != 0)=true:=by simp;omega
    clear hk
    go_wp2_with (go_at_call 74;(with_reducible refine H3.mono ?_);rintro e w' ⟨rfl,q⟩;replace q:Hid _:=hidS q)
    rw [HR.out]
    exact ⟨rfl,q.out⟩
  ·clear B0 c0 c1
   have Q0:Hid (R (.returned (.int .i64 0)) wr):=q
   clear q
   go_wp2
   exact Q0.out
theorem fsCreate {w:World} {S:Nat→Prop} {d:Nat} {D:Dk} (h:FsIs w S d D) (hok:D.Ok) (hp:D.pend.length≤1000000000) (hfl:D.files.length≤1000000000) (name:ByteArray) :
  Calls Tryz.prog 33 #[pt d,.string name] w fun e w'=>e = .returned (.int .i64 ((D.create name).2:Nat))∧FsTo w S d (D.create name).1 w':=by
 obtain ⟨rl,ms,mf,pv,F,h1,h2⟩:=h
 exact (fcreate_any h1 hok hp hfl name).mono fun e w' ⟨a,b⟩=>⟨a,FsTo.of b h2⟩
theorem fsRead {w:World} {S:Nat→Prop} {d:Nat} {D:Dk} (h:FsIs w S d D) (name:ByteArray) :
  Calls Tryz.prog 27 #[pt d,.string name] w fun e w'=>e = .returned (.tuple #[.string (D.read name).1,.int .i64 ((D.read name).2:Nat)])∧w=w':=by
 obtain ⟨rl,ms,mf,pv,F,h1,h2⟩:=h
 exact fread_any h1 name
theorem w73_any {w:World} {b0 d:Nat} {k:Nat} {Q:World→Prop} (x0:w.cell? ⟨b0,0,none⟩=some (pt d))
  (hc:∀ W,Turned (fun _=>False) w W→Calls Tryz.prog 33 #[pt d,.string ⟨#[108,111,103]⟩] W fun e w'=>e = .returned (.int .i64 (k:Nat))∧Q w') :
  Calls Tryz.prog 73 #[pt b0] w fun e w'=>e = .returned (.int .i64 (k:Nat))∧Q w':=by
 have l0:=lt_of_cell x0
 have hc1:=hc w (Turned.refl _ _)
 clear hc
 go_enter Tryz.func73,Tryz.ntmps73
 go_wp2_with (go_at_call 33;(with_reducible refine hc1.mono ?_);rintro e w' ⟨rfl,q⟩;replace q:Hid _:=hidS q)
 go_ret
 exact ⟨rfl,q.out⟩
theorem openS_dies {D D1:Dk} {k:Nat} (h0:(D.read logB).2=6) (h:D.create logB=(D1,k)) (hk:k≠0):openS D=(D1,.error k):=by
 unfold openS
 obtain ⟨x,y,hr⟩:∃ x y,D.read logB=(x,y):=⟨_,_,rfl⟩
 rw [hr]at h0 ⊢
 dsimp only at h0
 subst h0
 simp only []
 rw [h]
 cases k with
 |zero=>exact absurd rfl hk
 |succ k=>rfl
theorem openS_bad {D D1 D2:Dk} {k:Nat} (h0:(D.read logB).2=6) (h:D.create logB=(D1,0)) (h2:D1.syncNames=(D2,k)) (hk:k≠0):openS D=(D2,.error k):=by
 unfold openS
 obtain ⟨x,y,hr⟩:∃ x y,D.read logB=(x,y):=⟨_,_,rfl⟩
 rw [hr]at h0 ⊢
 dsimp only at h0
 subst h0
 simp only []
 rw [h]
 simp only []
 rw [h2]
 cases k with
 |zero=>exact absurd rfl hk
 |succ k=>rfl
theorem openS_good {D D1 D2:Dk} (h0:(D.read logB).2=6) (h:D.create logB=(D1,0)) (h2:D1.syncNames=(D2,0)):openS D=(D2,.ok noSt):=by
 unfold openS
 obtain ⟨x,y,hr⟩:∃ x y,D.read logB=(x,y):=⟨_,_,rfl⟩
 rw [hr]at h0 ⊢
 dsimp only at h0
 subst h0
 simp only []
 rw [h]
 simp only []
 rw [h2]
 rfl
def OpPost (w:World) (SD:Nat→Prop) (d:Nat) (r:Dk×Except Nat St) (e:Ending) (w' : World):Prop:=
 ∃ SD',FsIs w' SD' d r.1∧(∀ b,SD' b→SD b∨w.heap.size≤b)∧(∀ b,SD' b→b<w'.heap.size)∧Turned SD w w'∧match r.2 with
  | .error k=>e = .returned (.tuple #[.pointer none,.int .i64 (k:Nat)])
  | .ok s=>∃ p rs tv cv,e = .returned (.tuple #[pt p,.int .i64 0])∧StAt 140 w' rs p (pt d) tv cv s∧∀ b,rs b≠0→w.heap.size≤b∧¬ SD' b
set_option maxHeartbeats 1000000 in
theorem sopenNew_any {w:World} {SD:Nat→Prop} {d:Nat} {D:Dk} (hD:FsIs w SD d D) (hok:D.Ok) (hp:D.pend.length≤1000000000) (hfl:D.files.length≤1000000000) (hbd:∀ b,SD b→b<w.heap.size) (h0:D.read logB=(emp,6)) :
  Calls Tryz.prog 25 #[pt d] w (OpPost w SD d (openS D)):=by
 obtain ⟨Z,hZ⟩:∃ Z,Z=OpPost w SD d (openS D):=⟨_,rfl⟩
 have HZ:Hid (Z=OpPost w SD d (openS D)):=hZ
 rw [←hZ]
 have hd:d<w.heap.size:=by
  obtain ⟨rl,ms,mf,pv,F,h1,h2⟩:=hD
  exact h1.bnd d (by rw [h1.r1];decide)
 obtain ⟨V,hV⟩:∃ V,V=(w.alloc (.cells #[pt d] 33)).alloc (.cells #[pt d,.slice none 0 0,.slice none 0 0,.bool false] 140):=⟨_,rfl⟩
 have HVV:Hid (V=(w.alloc (.cells #[pt d] 33)).alloc (.cells #[pt d,.slice none 0 0,.slice none 0 0,.bool false] 140)):=hV
 obtain ⟨tV,v0,v1⟩:=two_boxes (w:=w) (.cells #[pt d] 33) (.cells #[pt d,.slice none 0 0,.slice none 0 0,.bool false] 140)
 rw [←hV]at tV v0 v1
 have zV:V.heap.size=w.heap.size+2:=by rw [hV];simp
 have hrd:=fsRead (hD.turned tV fun _ _ q=>q) logB
 rw [h0]at hrd
 have HRD:Hid (Calls Tryz.prog 27 #[pt d,.string ⟨#[108,111,103]⟩] V fun e w'=>e = .returned (.tuple #[.string ⟨#[]⟩,.int .i64 6])∧V=w'):=hrd
 obtain ⟨tA,xA⟩:=one_box (w:=V) (.cells #[.func (.func 73) #[] #[pt w.heap.size],.func (.func 74) #[pt d] #[]] 137)
 have tW:=tV.trans tA fun _ _ q=>q
 have DW:=hD.turned tW fun _ _ q=>q
 have bA:=cell_of (boxed v0 tA id) 0 _ rfl
 have hcr:=fun W (q:Turned (fun _=>False) (V.alloc (.cells #[.func (.func 73) #[] #[pt w.heap.size],.func (.func 74) #[pt d] #[]] 137)) W)=>(fsCreate (DW.turned q fun _ _ z=>z) hok hp hfl logB).mono fun e w' (z:_∧_)=>(⟨z.1,z.2.after (q.mono fun _ _ y=>y.elim)⟩:_∧FsTo (V.alloc (.cells #[.func (.func 73) #[] #[pt w.heap.size],.func (.func 74) #[pt d] #[]] 137)) SD d (D.create logB).1 w')
 have hoC:=hok.createOk logB
 have h06:(D.read logB).2=6:=by rw [h0]
 obtain ⟨D1,k1,hcr1⟩:∃ D1 k1,D.create logB=(D1,k1):=⟨_,_,rfl⟩
 rw [hcr1]at hcr hoC
 dsimp only at hcr hoC
 obtain ⟨D',k',hF,hS⟩:∃ (D' : Dk) (k' : Nat),(Calls Tryz.prog 72 #[.slice (some ⟨V.heap.size,0,none⟩) 2 2] (V.alloc (.cells #[.func (.func 73) #[] #[pt w.heap.size],.func (.func 74) #[pt d] #[]] 137)) fun e w'=>e = .returned (.int .i64 (k' : Nat))∧FsTo (V.alloc (.cells #[.func (.func 73) #[] #[pt w.heap.size],.func (.func 74) #[pt d] #[]] 137)) SD d D' w')∧openS D=(D',if k'=0 then .ok noSt else .error k'):=by
  by_cases hk:k1=0
  ·subst hk
   obtain ⟨D2,k2,hsy⟩:∃ D2 k2,D1.syncNames=(D2,k2):=⟨_,_,rfl⟩
   refine ⟨D2,k2,first73_goes xA (T:=SD) (Q1:=fun w1=>FsTo (V.alloc (.cells #[.func (.func 73) #[] #[pt w.heap.size],.func (.func 74) #[pt d] #[]] 137)) SD d D1 w1) (fun q=>by have:=hbd _ q;omega) ((w73_any bA hcr).mono fun e w' ⟨a,b⟩=>⟨a,b,?_⟩) fun w1 q1 t1=>?_,?_⟩
   ·obtain ⟨_, _, _, _, t⟩ := b
    exact t
   ·obtain ⟨S1, g1, g2, g3, g4⟩ := q1
    have hs:=fsSyncNames g1 hoC
    rw [hsy]at hs
    exact hs.mono fun e w' ⟨a,b⟩=>⟨a,b.next g2 t1⟩
   ·by_cases hk2 : k2 = 0
    ·subst hk2;rw [if_pos rfl];exact openS_good h06 hcr1 hsy
    ·rw [if_neg hk2];exact openS_bad h06 hcr1 hsy hk2
  ·exact ⟨D1,k1,first73_dies xA hk (w73_any bA hcr),by rw [if_neg hk];exact openS_dies h06 hcr1 hk⟩
 have HS:Hid (openS D=(D',if k'=0 then .ok noSt else .error k')):=hS
 have HF:Hid _:=hidS hF
 have HE:Hid (∀ w2,FsTo (V.alloc (.cells #[.func (.func 73) #[] #[pt w.heap.size],.func (.func 74) #[pt d] #[]] 137)) SD d D' w2→∃ SD',FsIs w2 SD' d D'∧(∀ b,SD' b→SD b∨w.heap.size≤b)∧(∀ b,SD' b→b<w2.heap.size)∧Turned SD w w2∧∃ rs,StAt 140 w2 rs (w.heap.size+1) (pt d) (.slice none 0 0) (.slice none 0 0) noSt∧∀ b,rs b≠0→w.heap.size≤b∧¬ SD' b):=fun w2 q=>by
  obtain ⟨S1,g1,g2,g3,g4⟩:=q
  have hz:(V.alloc (.cells #[.func (.func 73) #[] #[pt w.heap.size],.func (.func 74) #[pt d] #[]] 137)).heap.size=w.heap.size+3:=by simp [zV]
  have hx:w2.heap[w.heap.size+1]? = some (.cells #[pt d,.slice none 0 0,.slice none 0 0,.bool false] 140):=boxed (boxed v1 tA id) g4 (fun q=>by have:=hbd _ q;omega)
  refine ⟨S1,g1,fun b hb=>(g2 b hb).imp id fun q=>by omega,g3,(tW.mono fun _ _ q=>q.elim).trans g4 fun _ _ q=>q,fun b=>if b=w.heap.size+1 then 1 else 0,⟨if_pos rfl,hx,⟨[],Sl.nil _ _ _ _,fun i t hi=>by simp [noSt]at hi⟩,⟨[],Sl.nil _ _ _ _,fun i t hi=>by simp [noSt]at hi⟩,fun b hb=>?_⟩,fun b hb=>?_⟩
  ·by_cases q : b = w.heap.size + 1
   ·rw [q];exact lt_of_block hx
   ·simp [q]at hb
  ·by_cases q : b = w.heap.size + 1
   ·refine ⟨by omega, fun z => ?_⟩
    rcases g2 b z with y|y
    ·have:=hbd _ y;omega
    ·omega
   ·simp [q]at hb
 have cV:V.cell? ⟨w.heap.size,0,none⟩=some (pt d):=cell_of v0 0 _ rfl
 have lV:=lt_of_block v0
 clear hD hok hp hfl hbd h0 hZ hV tV v0 v1 zV hrd tA xA tW DW bA hcr hoC h06 hcr1 hF hS
 by_cases hk:k'=0
 ·rw [if_pos hk] at HS
  subst hk
  go_enter Tryz.func25,Tryz.ntmps25
  go_wp2_with fail
  rw [←HVV.out]
  go_wp2_with (first|(go_at_call 27;(with_reducible refine HRD.out.mono ?_);rintro e w1 ⟨rfl,rfl⟩)|(go_at_call 72;(with_reducible refine HF.out.mono ?_);rintro e w2 ⟨rfl,q⟩;replace q:Hid _:=hidS q))
  rw [HZ.out]
  obtain ⟨SD',a1,a2,a3,a4,rs,a5,a6⟩:=HE.out w2 q.out
  refine ⟨SD',by rw [HS.out];exact a1,a2,a3,a4,?_⟩
  rw [HS.out]
  exact ⟨w.heap.size+1,rs,_,_,rfl,a5,a6⟩
 ·rw [if_neg hk] at HS
  have e3:((k' : Int) == 0)=false:=by simp;omega
  have e4:((k' : Int) != 0)=true:=by simp;omega
  clear hk
  go_enter Tryz.func25,Tryz.ntmps25
  go_wp2_with fail
  rw [←HVV.out]
  go_wp2_with (first|(go_at_call 27;(with_reducible refine HRD.out.mono ?_);rintro e w1 ⟨rfl,rfl⟩)|(go_at_call 72;(with_reducible refine HF.out.mono ?_);rintro e w2 ⟨rfl,q⟩;replace q:Hid _:=hidS q))
  rw [HZ.out]
  obtain ⟨SD',a1,a2,a3,a4,-⟩:=HE.out w2 q.out
  refine ⟨SD',by rw [HS.out];exact a1,a2,a3,a4,?_⟩
  rw [HS.out]
  rfl
def chainB:ByteArray:=⟨#[99,104,97,105,110]⟩
theorem fsOff {w:World} {S:Nat→Prop} {d:Nat} {D:Dk} (h:FsIs w S d D):Calls Tryz.prog 53 #[pt d] w fun e w'=>e = .returned (.bool D.off)∧w=w':=by
 obtain ⟨rl,ms,mf,pv,F,h1,h2⟩:=h
 exact foff_any h1
def XoPost (w:World) (d:Nat) (e:Ending) (w' : World):Prop:=
 ∃ p,e = .returned (.tuple #[pt p,.int .i64 0])∧w.heap.size≤p∧p<w'.heap.size∧IxAt w' (fun b=>if b=p then 1 else 0) p (pt d) (.slice none 0 0) (.slice none 0 0) noIx∧Turned (fun _=>False) w w'
set_option maxHeartbeats 1000000 in
theorem xopenNew_any {w:World} {S:Nat→Prop} {d:Nat} {D:Dk} {t:ByteArray} {k:Nat} (hD:FsIs w S d D) (ho:D.off=false) (hr:D.read chainB=(t,k)) (hk:k≠0) (n:Int):Calls Tryz.prog 13 #[pt d,.int .i64 n] w (XoPost w d):=by
 obtain ⟨Z,hZ⟩:∃ Z,Z=XoPost w d:=⟨_,rfl⟩
 have HZ:Hid (Z=XoPost w d):=hZ
 rw [←hZ]
 have hof:=fsOff hD
 rw [ho]at hof
 obtain ⟨V,hV⟩:∃ V,V=w.alloc (.cells #[pt d,.slice none 0 0,.slice none 0 0] 116):=⟨_,rfl⟩
 have HVV:Hid (V=w.alloc (.cells #[pt d,.slice none 0 0,.slice none 0 0] 116)):=hV
 have tV:Turned (fun _=>False) w V:=by rw [hV];exact Turned.alloc _ _ _
 have xV:V.heap[w.heap.size]? = some (.cells #[pt d,.slice none 0 0,.slice none 0 0] 116):=by rw [hV];exact heap_alloc_new _ _
 have hrd:=fsRead (hD.turned tV fun _ _ q=>q) chainB
 rw [hr]at hrd
 dsimp only at hrd
 have HRD:Hid (Calls Tryz.prog 27 #[pt d,.string ⟨#[99,104,97,105,110]⟩] (w.alloc (.cells #[pt d,.slice none 0 0,.slice none 0 0] 116)) fun e w'=>e = .returned (.tuple #[.string t,.int .i64 (k:Nat)])∧w.alloc (.cells #[pt d,.slice none 0 0,.slice none 0 0] 116)=w'):=by rw [←hV];exact hrd
 have e1:((k:Int) == 0)=false:=by simp;omega
 have e2:((k:Int) != 0)=true:=by simp;omega
 have FIN:Hid (XoPost w d (.returned (.tuple #[pt w.heap.size,.int .i64 0])) (w.alloc (.cells #[pt d,.slice none 0 0,.slice none 0 0] 116))):=hidS (by
  rw [←hV]
  refine ⟨w.heap.size,rfl,Nat.le_refl _,lt_of_block xV,⟨if_pos rfl,xV,Sl.nil _ _ _ _,⟨[],Sl.nil _ _ _ _,fun i g hi=>by simp [noIx]at hi⟩,fun b hb=>?_⟩,tV⟩
  by_cases q:b=w.heap.size
  ·rw [q];exact lt_of_block xV
  ·simp [q]at hb)
 clear hZ hD ho hr hk hV tV xV hrd HVV
 go_enter Tryz.func13,Tryz.ntmps13
 go_wp2_with (first|(go_at_call 53;(with_reducible refine hof.mono ?_);rintro e w1 ⟨rfl,rfl⟩)|(go_at_call 27;(with_reducible refine HRD.out.mono ?_);rintro e w1 ⟨rfl,rfl⟩))
 rw [HZ.out]
 exact FIN.out
def RkTo (w:World) (S:Nat→Prop) (r:Nat) (D' : Dk) (w' : World):Prop:=
 ∃ S',RkIs w' S' r D'∧(∀ b,S' b→S b∨w.heap.size≤b)∧(∀ b,S' b→b<w'.heap.size)∧Turned S w w'
theorem RkTo.of {w w' : World} {rl:Nat→Nat} {S:Nat→Prop} {r:Nat} {D' : Dk} (h:RkPost w rl r D' w') (hS:∀ b,rl b≠0→S b):RkTo w S r D' w':=by
 obtain ⟨rl',fv,sv,av,pv,h1,h2,h3⟩:=h
 exact ⟨fun b=>rl' b≠0,⟨rl',fv,sv,av,pv,h1,fun b hb=>hb⟩,fun b hb=>(h2 b hb).imp (hS b) id,h1.bnd,h3.mono fun b _ hb=>hS b hb⟩
theorem RkTo.next {w w1 w2:World} {S S1:Nat→Prop} {r:Nat} {D2:Dk} (h:RkTo w1 S1 r D2 w2) (h1:∀ b,S1 b→S b∨w.heap.size≤b) (t:Turned S w w1):RkTo w S r D2 w2:=by
 obtain ⟨S2,a,b,c,e⟩:=h
 exact ⟨S2,a,fun x hx=>(b x hx).elim (h1 x) fun q=>.inr (Nat.le_trans t.size q),c,t.comp e fun i hi q=>q.elim id fun q=>(h1 i q).elim id fun z=>by omega⟩
theorem RkTo.after {w w1 w2:World} {S:Nat→Prop} {r:Nat} {D2:Dk} (h:RkTo w1 S r D2 w2) (t:Turned S w w1):RkTo w S r D2 w2:=h.next (fun b hb=>.inl hb) t
theorem RkTo.stay {w:World} {S:Nat→Prop} {r:Nat} {D:Dk} (h:RkIs w S r D) (hb:∀ b,S b→b<w.heap.size):RkTo w S r D w:=⟨S,h,fun b q=>.inl q,hb,Turned.refl _ _⟩
theorem rkRead {w:World} {S:Nat→Prop} {r:Nat} {D:Dk} (h:RkIs w S r D) (hok:D.Ok) (name:ByteArray) :
  Calls Tryz.prog 182 #[pt r,.string name] w fun e w'=>e = .returned (.tuple #[.string (D.read name).1,.int .i64 ((D.read name).2:Nat)])∧Turned (fun _=>False) w w':=by
 obtain ⟨rl,fv,sv,av,pv,h1,h2⟩:=h
 exact kread_any h1 hok name
theorem rkCreate {w:World} {S:Nat→Prop} {r:Nat} {D:Dk} (h:RkIs w S r D) (hok:D.Ok) (hp:D.pend.length≤1000000000) (hfl:D.files.length≤1000000000) (name:ByteArray) :
  Calls Tryz.prog 183 #[pt r,.string name] w fun e w'=>e = .returned (.int .i64 ((D.create name).2:Nat))∧RkTo w S r (D.create name).1 w':=by
 obtain ⟨rl,fv,sv,av,pv,h1,h2⟩:=h
 exact (kcreate_any h1 hok hp hfl name).mono fun e w' ⟨a,b⟩=>⟨a,RkTo.of b h2⟩
theorem rkSyncNames {w:World} {S:Nat→Prop} {r:Nat} {D:Dk} (h:RkIs w S r D) (hok:D.Ok) :
  Calls Tryz.prog 184 #[pt r] w fun e w'=>e = .returned (.int .i64 (D.syncNames.2:Nat))∧RkTo w S r D.syncNames.1 w':=by
 obtain ⟨rl,fv,sv,av,pv,h1,h2⟩:=h
 exact (ksyncNames_any h1 hok).mono fun e w' ⟨a,b⟩=>⟨a,RkTo.of b h2⟩
def KoPost (w:World) (SD:Nat→Prop) (d:Nat) (r:Dk×Except Nat St) (e:Ending) (w' : World):Prop:=
 ∃ SD',RkIs w' SD' d r.1∧(∀ b,SD' b→SD b∨w.heap.size≤b)∧(∀ b,SD' b→b<w'.heap.size)∧Turned SD w w'∧match r.2 with
  | .error k=>e = .returned (.tuple #[.pointer none,.int .i64 (k:Nat)])
  | .ok s=>∃ p rs tv cv,e = .returned (.tuple #[pt p,.int .i64 0])∧StAt 78 w' rs p (pt d) tv cv s∧∀ b,rs b≠0→w.heap.size≤b∧¬ SD' b
set_option maxHeartbeats 1000000 in
theorem kopenNew_any {w:World} {SD:Nat→Prop} {d:Nat} {D D1 D2:Dk} (hD:RkIs w SD d D) (hok:D.Ok) (hp:D.pend.length≤1000000000) (hfl:D.files.length≤1000000000) (hbd:∀ b,SD b→b<w.heap.size) (h0:D.read logB=(emp,6)) (h1:D.create logB=(D1,0)) (h2:D1.syncNames=(D2,0)) :
  Calls Tryz.prog 101 #[pt d] w (KoPost w SD d (D2,.ok noSt)):=by
 obtain ⟨Z,hZ⟩:∃ Z,Z=KoPost w SD d (D2,.ok noSt):=⟨_,rfl⟩
 have HZ:Hid (Z=KoPost w SD d (D2,.ok noSt)):=hZ
 rw [←hZ]
 obtain ⟨V,hV⟩:∃ V,V=w.alloc (.cells #[pt d,.slice none 0 0,.slice none 0 0,.bool false] 78):=⟨_,rfl⟩
 have HVV:Hid (V=w.alloc (.cells #[pt d,.slice none 0 0,.slice none 0 0,.bool false] 78)):=hV
 have tV:Turned (fun _=>False) w V:=by rw [hV];exact Turned.alloc _ _ _
 have xV:V.heap[w.heap.size]? = some (.cells #[pt d,.slice none 0 0,.slice none 0 0,.bool false] 78):=by rw [hV];exact heap_alloc_new _ _
 have DV:=hD.turned tV fun _ _ q=>q
 have hrd:=rkRead DV hok logB
 rw [h0]at hrd
 have HRD:Hid (Calls Tryz.prog 182 #[pt d,.string ⟨#[108,111,103]⟩] V fun e w'=>e = .returned (.tuple #[.string ⟨#[]⟩,.int .i64 6])∧Turned (fun _=>False) V w'):=hrd
 have HCR:Hid (∀ W,Turned (fun _=>False) V W→Calls Tryz.prog 183 #[pt d,.string ⟨#[108,111,103]⟩] W fun e w'=>e = .returned (.int .i64 0)∧RkTo V SD d D1 w'):=fun W t=>by
  have:=rkCreate (DV.turned t fun _ _ q=>q) hok hp hfl logB
  rw [h1]at this
  exact this.mono fun e w' ⟨a,b⟩=>⟨a,b.after (t.mono fun _ _ z=>z.elim)⟩
 have hok1:D1.Ok:=by have:=hok.createOk logB;rw [h1]at this;exact this
 have HSY:Hid (∀ W,RkTo V SD d D1 W→Calls Tryz.prog 184 #[pt d] W fun e w'=>e = .returned (.int .i64 0)∧RkTo V SD d D2 w'):=fun W ⟨S1,a1,a2,a3,a4⟩=>by
  have:=rkSyncNames a1 hok1
  rw [h2]at this
  exact this.mono fun e w' ⟨a,b⟩=>⟨a,b.next a2 a4⟩
 have FIN:Hid (∀ w2,RkTo V SD d D2 w2→KoPost w SD d (D2,.ok noSt) (.returned (.tuple #[pt w.heap.size,.int .i64 0])) w2):=fun w2 ⟨S1,g1,g2,g3,g4⟩=>by
  have zV:=tV.size
  have hl:=lt_of_block xV
  have hx:w2.heap[w.heap.size]? = some (.cells #[pt d,.slice none 0 0,.slice none 0 0,.bool false] 78):=boxed xV g4 (fun q=>by have:=hbd _ q;omega)
  refine ⟨S1,g1,fun b hb=>(g2 b hb).imp id fun q=>by omega,g3,(tV.mono fun _ _ q=>q.elim).trans g4 fun _ _ q=>q,w.heap.size,fun b=>if b=w.heap.size then 1 else 0,_,_,rfl,⟨if_pos rfl,hx,⟨[],Sl.nil _ _ _ _,fun i t hi=>by simp [noSt]at hi⟩,⟨[],Sl.nil _ _ _ _,fun i t hi=>by simp [noSt]at hi⟩,fun b hb=>?_⟩,fun b hb=>?_⟩
  ·by_cases q : b = w.heap.size
   ·rw [q];exact lt_of_block hx
   ·simp [q]at hb
  ·by_cases q : b = w.heap.size
   ·refine ⟨by omega, fun z => ?_⟩
    rcases g2 b z with y|y
    ·have:=hbd _ y;omega
    ·omega
   ·simp [q]at hb
 clear hZ hD hok hp hfl hbd h0 h1 h2 hV tV xV DV hrd hok1
 go_enter Tryz.func101,Tryz.ntmps101
 go_wp2_with fail
 rw [←HVV.out]
 go_wp2_with (first
  |(go_at_call 182;(with_reducible refine HRD.out.mono ?_);rintro e w1 ⟨rfl,q1⟩;replace q1:Hid _:=hidS q1)
  |(go_at_call 183;(with_reducible refine (HCR.out _ q1.out).mono ?_);rintro e w2 ⟨rfl,q2⟩;replace q2:Hid _:=hidS q2)
  |(go_at_call 184;(with_reducible refine (HSY.out _ q2.out).mono ?_);rintro e w3 ⟨rfl,q3⟩;replace q3:Hid _:=hidS q3))
 rw [HZ.out]
 exact FIN.out _ q3.out
def KyPost (w:World) (d:Nat) (e:Ending) (w' : World):Prop:=
 ∃ p,e = .returned (.tuple #[pt p,.int .i64 0])∧w.heap.size≤p∧p<w'.heap.size∧w'.heap[p]? = some (.cells #[pt d,.slice none 0 0,.slice none 0 0] 178)∧Turned (fun _=>False) w w'
theorem kdecode_none (w:World):Calls Tryz.prog 188 #[.string ⟨#[]⟩] w fun e w'=>(∃ v k,e = .returned (.tuple #[v,.int .i64 k]))∧Turned (fun _=>False) w w':=by
 have hop:=opened_any ⟨#[]⟩ ⟨#[80,68,71,77,1]⟩ w (by simp [ByteArray.size])
 have h2:openR ⟨#[]⟩ ⟨#[80,68,71,77,1]⟩=2:=by simp [openR,ByteArray.size]
 rw [h2]at hop
 clear h2
 go_enter Tryz.func188,Tryz.ntmps188
 go_wp2_with (go_at_call 268;(with_reducible refine hop.mono ?_);rintro e w1 ⟨rfl,ht1⟩)
 go_ret2
 exact ⟨⟨_,_,rfl⟩,ht1⟩
set_option maxHeartbeats 1000000 in
theorem kxopenNew_any {w:World} {S:Nat→Prop} {d:Nat} {D:Dk} (hD:RkIs w S d D) (hok:D.Ok) (hr:D.read chainB=(emp,6)) (n:Int):Calls Tryz.prog 102 #[pt d,.int .i64 n] w (KyPost w d):=by
 obtain ⟨Z,hZ⟩:∃ Z,Z=KyPost w d:=⟨_,rfl⟩
 have HZ:Hid (Z=KyPost w d):=hZ
 rw [←hZ]
 obtain ⟨V,hV⟩:∃ V,V=w.alloc (.cells #[pt d,.slice none 0 0,.slice none 0 0] 178):=⟨_,rfl⟩
 have HVV:Hid (V=w.alloc (.cells #[pt d,.slice none 0 0,.slice none 0 0] 178)):=hV
 have tV:Turned (fun _=>False) w V:=by rw [hV];exact Turned.alloc _ _ _
 have xV:V.heap[w.heap.size]? = some (.cells #[pt d,.slice none 0 0,.slice none 0 0] 178):=by rw [hV];exact heap_alloc_new _ _
 have hrd:=rkRead (hD.turned tV fun _ _ q=>q) hok chainB
 rw [hr]at hrd
 have HRD:Hid (Calls Tryz.prog 182 #[pt d,.string ⟨#[99,104,97,105,110]⟩] V fun e w'=>e = .returned (.tuple #[.string ⟨#[]⟩,.int .i64 6])∧Turned (fun _=>False) V w'):=hrd
 have HDE:Hid (∀ W,Turned (fun _=>False) V W→Calls Tryz.prog 188 #[.string ⟨#[]⟩] W fun e w'=>(∃ v k,e = .returned (.tuple #[v,.int .i64 k]))∧Turned (fun _=>False) V w'):=fun W t=>(kdecode_none W).mono fun e w' ⟨a,b⟩=>⟨a,t.trans b fun _ _ z=>z⟩
 have FIN:Hid (∀ w2,Turned (fun _=>False) V w2→KyPost w d (.returned (.tuple #[pt w.heap.size,.int .i64 0])) w2):=fun w2 t=>
  ⟨w.heap.size,rfl,Nat.le_refl _,lt_of_block (boxed xV t id),boxed xV t id,tV.trans t fun _ _ z=>z⟩
 clear hZ hD hok hr hV tV xV hrd
 go_enter Tryz.func102,Tryz.ntmps102
 go_wp2_with fail
 rw [←HVV.out]
 go_wp2_with (first
  |(go_at_call 182;(with_reducible refine HRD.out.mono ?_);rintro e w1 ⟨rfl,q1⟩;replace q1:Hid _:=hidS q1)
  |(go_at_call 188;(with_reducible refine (HDE.out _ q1.out).mono ?_);rintro e w2 ⟨⟨v,k,rfl⟩,q2⟩;replace q2:Hid _:=hidS q2))
 rw [HZ.out]
 exact FIN.out _ q2.out
theorem xopen_null (n:Int) (w:World):Calls Tryz.prog 13 #[.pointer none,.int .i64 n] w fun e w'=>e = .returned (.tuple #[.pointer none,.int .i64 1])∧Turned (fun _=>False) w w':=by
 go_enter Tryz.func13,Tryz.ntmps13
 go_wp2
 go_ret2
 exact ⟨rfl,Turned.refl _ _⟩
theorem xlayers_nil (w:World):Calls Tryz.prog 16 #[.pointer none] w fun e w'=>e = .returned (.slice none 0 0)∧Turned (fun _=>False) w w':=by
 go_enter Tryz.func16,Tryz.ntmps16
 go_wp2
 go_ret
 exact ⟨rfl,Turned.refl _ _⟩
theorem xready_nilx (src:Value) (g:Stg) (w:World):Calls Tryz.prog 61 #[.pointer none,src,stgv g] w fun e w'=>e = .returned (.int .i64 1)∧Turned (fun _=>False) w w':=by
 go_enter Tryz.func61,Tryz.ntmps61
 go_wp2
 go_ret
 exact ⟨rfl,Turned.alloc _ _ _⟩
theorem xready_nils (p:Nat) (g:Stg) (w:World):Calls Tryz.prog 61 #[pt p,.nilIface,stgv g] w fun e w'=>e = .returned (.int .i64 1)∧Turned (fun _=>False) w w':=by
 go_enter Tryz.func61,Tryz.ntmps61
 go_wp2
 go_ret
 exact ⟨rfl,Turned.alloc _ _ _⟩
theorem xupdate_refused {xv src:Value} {g:Stg} {w:World} (h:∀ W,Turned (fun _=>False) w W→Calls Tryz.prog 61 #[xv,src,stgv g] W fun e w'=>e = .returned (.int .i64 1)∧Turned (fun _=>False) W w') :
  Calls Tryz.prog 18 #[xv,src,stgv g] w fun e w'=>e = .returned (.int .i64 1)∧Turned (fun _=>False) w w':=by
 have HR:Hid (∀ W,Turned (fun _=>False) w W→Calls Tryz.prog 61 #[xv,src,.agg #[.int .i64 g.h,.int .i64 g.p,.int .i64 g.m,.int .u32 (g.seed:Nat)]] W fun e w'=>e = .returned (.int .i64 1)∧Turned (fun _=>False) w w'):=fun W t=>(h W t).mono fun e w' ⟨a,b⟩=>⟨a,t.trans b fun _ _ z=>z⟩
 clear h
 go_enter Tryz.func18,Tryz.ntmps18
 go_wp2_with (go_at_call 61;(with_reducible refine (HR.out _ (Turned.alloc _ _ _)).mono ?_);rintro e w1 ⟨rfl,q1⟩;replace q1:Hid _:=hidS q1)
 go_ret
 exact ⟨rfl,q1.out⟩
theorem xcompact_refused {xv src:Value} {g:Stg} {w:World} (h:∀ W,Turned (fun _=>False) w W→Calls Tryz.prog 61 #[xv,src,stgv g] W fun e w'=>e = .returned (.int .i64 1)∧Turned (fun _=>False) W w') :
  Calls Tryz.prog 19 #[xv,src,stgv g] w fun e w'=>e = .returned (.int .i64 1)∧Turned (fun _=>False) w w':=by
 have HR:Hid (∀ W,Turned (fun _=>False) w W→Calls Tryz.prog 61 #[xv,src,.agg #[.int .i64 g.h,.int .i64 g.p,.int .i64 g.m,.int .u32 (g.seed:Nat)]] W fun e w'=>e = .returned (.int .i64 1)∧Turned (fun _=>False) w w'):=fun W t=>(h W t).mono fun e w' ⟨a,b⟩=>⟨a,t.trans b fun _ _ z=>z⟩
 clear h
 go_enter Tryz.func19,Tryz.ntmps19
 go_wp2_with (go_at_call 61;(with_reducible refine (HR.out _ (Turned.alloc _ _ _)).mono ?_);rintro e w1 ⟨rfl,q1⟩;replace q1:Hid _:=hidS q1)
 go_ret
 exact ⟨rfl,q1.out⟩
end Go.Proofs.YtofcogekgcgjhaaGreatDoor
