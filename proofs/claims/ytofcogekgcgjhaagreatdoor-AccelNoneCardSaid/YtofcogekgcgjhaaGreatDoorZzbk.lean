/- Packed. -/
import Derived.Test.YtofcogekgcgjhaaGreatDoorZzbd
set_option linter.unusedVariables false
set_option linter.unusedSimpArgs false
set_option maxRecDepth 100000
namespace Go.Proofs.YtofcogekgcgjhaaGreatDoor
open Go.RowKit Go.Mine Go.Mine.Ac
set_option maxHeartbeats 4000000 in
theorem bmake_any (s:Stg) (l:List ByteArray) (w:World) {S:Nat→Prop} {a:Option Addr} {cap:Nat} (hsd:s.seed<4294967296) (h:Sl w S 9 1 (.slice a l.length cap) (l.map Value.string) l.length) (hl:l.length≤1000000) (hs:∀ x∈l,x.size≤1000000000) :
    Calls Tryz.prog 232 #[stgv s,.slice a l.length cap] w (MkPost w s l):=by
  obtain ⟨Z,hZ⟩:∃ Z,Z=MkPost w s l:=⟨_,rfl⟩
  have HZ:Hid (Z=MkPost w s l):=hZ
  rw [←hZ]
  obtain ⟨V,hV⟩:∃ V,V=(w.alloc (.cells #[.int .i64 s.h,.int .i64 s.p,.int .i64 s.m,.int .u32 (s.seed:Nat)] 24)).alloc (.cells #[.int .i64 0,.string ⟨#[]⟩] 46):=⟨_,rfl⟩
  have HVV:Hid (V=(w.alloc (.cells #[.int .i64 s.h,.int .i64 s.p,.int .i64 s.m,.int .u32 (s.seed:Nat)] 24)).alloc (.cells #[.int .i64 0,.string ⟨#[]⟩] 46)):=hV
  obtain ⟨tV,xS,xF⟩:=two_boxes (w:=w) (.cells #[.int .i64 s.h,.int .i64 s.p,.int .i64 s.m,.int .u32 (s.seed:Nat)] 24) (.cells #[.int .i64 0,.string ⟨#[]⟩] 46)
  rw [←hV]at tV xS xF
  have TV:Hid (Turned (fun _=>False) w V):=tV
  have HBX:Hid (∀ (W:World) (T:Nat→Prop),Turned T V W→¬ T w.heap.size→W.cell? ⟨w.heap.size,0,none⟩=some (.int .i64 s.h)∧W.cell? ⟨w.heap.size,1,none⟩=some (.int .i64 s.p)∧W.cell? ⟨w.heap.size,2,none⟩=some (.int .i64 s.m)∧W.cell? ⟨w.heap.size,3,none⟩=some (.int .u32 (s.seed:Nat))∧w.heap.size<W.heap.size):=fun W T q z=>by
    have ha:=boxed xS q z
    exact ⟨cell_of ha 0 _ rfl,cell_of ha 1 _ rfl,cell_of ha 2 _ rfl,cell_of ha 3 _ rfl,lt_of_block ha⟩
  have HFX:Hid (∀ (W:World) (T:Nat→Prop),Turned T V W→¬ T (w.heap.size+1)→W.heap[w.heap.size+1]? = some (.cells #[.int .i64 0,.string ⟨#[]⟩] 46)):=fun W T q z=>boxed xF q z
  obtain ⟨v0,v1,v2,v3,v4⟩:=HBX.out V (fun _=>False) (Turned.refl _ _) id
  have HCK:Hid (Calls Tryz.prog 131 #[.agg #[.int .i64 s.h,.int .i64 s.p,.int .i64 s.m,.int .u32 (s.seed:Nat)]] V fun e w'=>e = .returned (.int .i64 (if goodStg s then 0 else 1))∧Turned (fun _=>False) V w'):=bcheck_any s V
  have hmm:=@run_makeMap Tryz.prog
  have HH:Hid _:=hidS h
  have HL0:Hid (l.length≤1000000∧(∀ x∈l,x.size≤1000000000)∧s.seed<4294967296):=⟨hl,hs,hsd⟩
  by_cases hg:goodStg s
  · rw [if_pos hg] at HCK
    have HG:Hid (goodStg s):=hg
    obtain ⟨L,hL⟩:∃ L,L=l.length:=⟨_,rfl⟩
    have HL:Hid (L=l.length∧L≤1000000):=⟨hL,by omega⟩
    rw [←hL]
    clear hZ hV tV xS xF hg h hl hs hsd hL
    go_enter Tryz.func232,Tryz.ntmps232
    go_wp2_with fail
    rw [←HVV.out]
    go_wp2_with (go_at_call 131;(with_reducible refine HCK.out.mono ?_);rintro e w1 ⟨rfl,q⟩;replace q:Hid _:=hidS q)
    obtain ⟨X,hX⟩:∃ X,X=w1.alloc (.map #[] 0):=⟨_,rfl⟩
    obtain ⟨mb,hmb⟩:∃ mb,mb=w1.heap.size:=⟨_,rfl⟩
    have hM0:MapIs KStr X mb (setM []) 0:=by rw [hX,hmb];exact (MapIs.made KStr w1).congr rfl fun k=>by cases k <;> simp [setM]
    have hB0:Births X mb:=by rw [hX,hmb];exact Births.made w1
    have hTX:Turned (fun _=>False) V X:=by rw [hX];exact q.out.new _
    have hmw:w.heap.size+1<mb:=by have:=lt_of_block (HFX.out w1 _ q.out id);omega
    have hmX:mb<X.heap.size:=hM0.lt
    rw [←hmb,←hX]
    have TX:Hid (Turned (fun _=>False) V X∧w.heap.size+1<mb∧V.heap.size≤mb):=⟨hTX,hmw,by rw [hmb];exact q.out.size⟩
    have B0:Hid (M1Rel X mb l L (.int .i64 0) X):=⟨0,by have:=HL.out;omega,rfl,by simpa [once] using hM0,hB0,Turned.refl _ _⟩
    have HWT:Hid (∀ wr,Turned (· = mb) X wr→Turned (fun _=>False) w wr):=fun wr t=>(TV.out.trans hTX fun _ _ z=>z).comp t fun i hi z=>z.elim id fun z=>by omega
    clear q hX hmb hM0 hB0 hTX hmw v0 v1 v2 v3 v4 hmm HCK
    go_loopg [23] L (fun g iv wr=>M1Rel X mb l g iv wr)
    case atStart=>exact B0.out
    case round=>
      clear B0
      obtain ⟨j,hjg,rfl,hmap,hbr,ht⟩:=hrel
      have G:Hid (j+gk=l.length):=hjg
      have HT:Hid (Turned (· = mb) X wr):=ht
      have HM:Hid (MapIs KStr wr mb (setM (l.take j)) (once (l.take j)).length):=hmap
      have HBR:Hid (Births wr mb):=hbr
      clear hjg ht hmap hbr
      by_cases hlt:j<L
      · obtain ⟨p, hp⟩ : ∃ p, l[j]? = some p := ⟨_, List.getElem?_eq_getElem (by rw [← HL.out.1]; exact hlt)⟩
        have HP:Hid (l[j]? = some p):=hp
        obtain ⟨g,off,cap',hva,-,-,-,hcell,-,hgl⟩:=HH.out.opens (by rw [←HL.out.1];omega)
        simp only [Value.slice.injEq]at hva
        obtain ⟨rfl,-,-⟩:=hva
        have c0:wr.cell? ⟨g,off+j,none⟩=some (.string p):=cell_at (by rw [hcell j (by rw [←HL.out.1];omega),List.getElem?_map,hp];rfl) (HWT.out wr HT.out) id
        have hgr:g<wr.heap.size:=Nat.lt_of_lt_of_le hgl (HWT.out wr HT.out).size
        clear hp hcell hgl
        go_wp2_with (at_mapUpdate;go_must (refine wpList_updateB rfl _ _ _ 349 rfl 9 276 keyStr Tryz.underlying349 HM.out HBR.out rfl (.string p) (.agg #[]) rfl rfl (kstr _) ?_);intro w3 hm3 hb3 ht3 hz3;have M3:Hid _:=hidS (And.intro hm3 (And.intro hb3 ht3));clear hm3 hb3 ht3 hz3)
        go_roundg (gk - 1)
        case measure=>have:=G.out;have:=HL.out;omega
        case rel=>
          have e1:l.take (j+1)=l.take j ++ [p]:=by rw [List.take_add_one,HP.out];rfl
          refine ⟨j+1,by have:=G.out;have:=HL.out;omega,by have:=HL.out;simp [wrap64];omega,?_,M3.out.2.1,HT.out.trans M3.out.2.2 fun _ _ z=>z⟩
          rw [e1,once_snoc_len]
          have:=M3.out.1
          rw [setM_some]at this
          by_cases hq:p∈l.take j
          · rw [if_pos (by simpa using hq)] at this
            rw [if_pos hq]
            exact this.congr rfl fun k=>setM_snoc _ _ _
          · rw [if_neg (by simpa using hq)] at this
            rw [if_neg hq]
            exact this.congr rfl fun k=>setM_snoc _ _ _
      · have hj : j = L := by have := G.out; have := HL.out.1; omega
        have HE:Hid (l.take j=l):=List.take_of_length_le (by have:=HL.out.1;omega)
        rw [HE.out]at HM
        clear hlt
        subst hj
        obtain ⟨n,hn⟩:∃ n,n=(once l).length:=⟨_,rfl⟩
        rw [←hn]at HM
        have HN:Hid (n=(once l).length):=hn
        clear hn
        obtain ⟨v0,v1,v2,v3,v4⟩:=HBX.out wr (· = mb) ((TX.out.1.mono fun _ _ z=>z.elim).trans HT.out fun _ _ z=>z) (by have:=TX.out.2.1;omega)
        have k0:=HFX.out wr (· = mb) ((TX.out.1.mono fun _ _ z=>z.elim).trans HT.out fun _ _ z=>z) (by have:=TX.out.2.1;omega)
        have f0:=free_of k0 0
        have f1:=free_of k0 1
        have c0:=cell_of k0 0 _ rfl
        have c1:=cell_of k0 1 _ rfl
        have kl:=lt_of_block k0
        clear k0
        have HWM:Hid (s.m.toNat=s.m):=hidS (by have:=HG.out;unfold goodStg at this;omega)
        have hlen:=HM.out.len Tryz.underlying349 3
        by_cases hm:s.m<(n:Int)
        · have d1 : decide (s.m < (n : Int)) = true := by simp [hm]
          have HE2:Hid (mkV s l = .tuple #[fltv ⟨2,⟨#[]⟩⟩,.int .i64 0]):=hidS (by
            unfold mkV
            rw [if_pos HG.out,makeF_large (by have:=HN.out;have:=HWM.out;omega)])
          clear hm
          go_wp2
          refine bodyPost_ret (v:=.tuple #[fltv ⟨2,⟨#[]⟩⟩,.int .i64 0]) (by simp [results,Tryz.results232,go_sem,c0,c1,kl,f0,f1]) rfl ?_
          rw [HZ.out]
          exact ⟨by rw [HE2.out],((HWT.out wr HT.out).fresh (Nat.le_succ _) _).fresh (Nat.le_succ _) _⟩
        · have d1 : decide (s.m < (n : Int)) = false := by simp; omega
          have HNM:Hid (¬ s.m<(n:Int)):=hm
          obtain ⟨pp,hpp⟩:∃ pp,pp=s.p.toNat:=⟨_,rfl⟩
          have hsp:s.p=(pp:Int):=by have:=HG.out;unfold goodStg at this;omega
          rw [hsp]at v1
          have HPP:Hid (pp=s.p.toNat∧s.p=(pp:Int)∧pp≤64∧n≤512):=⟨hpp,hsp,by have:=HG.out;unfold goodStg at this;omega,by have:=HG.out;unfold goodStg at this;omega⟩
          obtain ⟨np,qn,N,hnq,hw1,hw2,hw3,hmx⟩:=many_arith n pp HPP.out.2.2.2 HPP.out.2.2.1
          have HNP:Hid (np=n * pp∧np≤32768∧qn=(np+7) / 8∧N=max 1 qn∧1≤N∧N≤4096):=hnq
          obtain ⟨Z5,hZ5⟩:∃ Z5,Z5=madeCells #[.int .u8 0] (N * 1):=⟨_,rfl⟩
          have hmk:∀ W:World,(Instr.makeSlice 83 (.int .i64 (N:Int)) (.int .i64 (N:Int))).run Tryz.prog W = .ok (.slice (some ⟨W.heap.size,0,none⟩) N N) (W.alloc (.cells Z5 5)):=fun W=>by rw [hZ5];exact make_bytes N (Nat.le_trans HNP.out.2.2.2.2.2 (by decide)) W
          have HZ5:Hid (Z5=madeCells #[.int .u8 0] (N * 1)):=hZ5
          clear hm hpp hsp hnq hZ5
          go_upto_region 13 with (fail)
          obtain ⟨W2,hW2⟩:∃ W2,W2=wr.alloc (.cells Z5 5):=⟨_,rfl⟩
          obtain ⟨bb,hbb⟩:∃ bb,bb=wr.heap.size:=⟨_,rfl⟩
          have tW2:Turned (fun _=>False) wr W2:=by rw [hW2];exact Turned.alloc _ _ _
          have hM2:=HM.out.congr (tW2.block mb HM.out.lt id) fun _=>rfl
          have hB2:=HBR.out.congr (tW2.block mb HM.out.lt id)
          have sl2:Sl W2 (· = bb) 5 1 (.slice (some ⟨bb,0,none⟩) N N) (bcells (bytesU N (bitP s (8 * N) []))) N:=by
            rw [hW2,HZ5.out,hbb,bitP_none];exact bytes_sl N (Nat.le_trans HNP.out.2.2.2.2.2 (by decide)) wr _ rfl
          obtain ⟨es,clock,hes,hbo,hbn⟩:=hB2
          obtain ⟨hk,hent⟩:=set_keys hM2 hes
          have hrg:(Instr.range 349 (.map (some mb))).run Tryz.prog W2 = .ok (.pointer (some ⟨W2.heap.size,0,none⟩)) (W2.alloc (.mapIter (some mb) clock #[] clock)):=run_range_map W2 349 9 276 mb _ _ Tryz.underlying349 hes
          rw [←hbb,←hW2]
          obtain ⟨r,hr⟩:∃ r,r=W2.heap.size:=⟨_,rfl⟩
          obtain ⟨W3,hW3⟩:∃ W3,W3=W2.alloc (.mapIter (some mb) clock #[] clock):=⟨_,rfl⟩
          have tW3:Turned (fun _=>False) W2 W3:=by rw [hW3];exact Turned.alloc _ _ _
          have B3:Hid (M2Rel s N es clock mb r bb W3 (leftOf es #[]).size W3):=
            ⟨#[],[],clock,rfl,Visit.start es,by rw [hW3,hr];exact heap_alloc_new _ _,Nat.le_refl _,by rw [hW3];exact (alloc_old _ hM2.lt).trans hes,sl2.turned tW3 fun _ _ z=>z,Turned.refl _ _⟩
          have HE:Hid (∀ e∈es.toList,∃ p,e.key = .string p∧p.size≤1000000000):=fun e he=>by
            obtain ⟨p,hp⟩:=hent e he
            have h1:Value.string p∈(once l).map Value.string:=hk.mem_iff.1 (hp ▸ List.mem_map.2 ⟨e,he,rfl⟩)
            obtain ⟨p2,h2,h3⟩:=List.mem_map.1 h1
            injection h3 with h3
            exact ⟨p,hp,HL0.out.2.1 p (h3 ▸ once_mem.1 h2)⟩
          have HB:Hid (∀ x∈es.toList,x.born<clock):=hbo
          have HNb:Hid ((es.toList.map (·.born)).Nodup):=hbn
          have HK:Hid ((es.toList.map (·.key)).Perm ((once l).map Value.string)):=hk
          have HT3:Hid (Turned (fun _=>False) wr W3∧bb=wr.heap.size∧r=wr.heap.size+1∧r<W3.heap.size∧bb<W3.heap.size):=⟨tW2.trans tW3 fun _ _ z=>z,hbb,by rw [hr,hW2];simp,by rw [hW3,hr];simp,by rw [hW3,hbb,hW2];simp;omega⟩
          have HV3:Hid (∀ W,Turned (fun b=>b=r∨b=bb) W3 W→Turned (fun b=>b=mb∨b=r∨b=bb) V W∧Turned (fun _=>False) w W∧¬ (w.heap.size=mb∨w.heap.size=r∨w.heap.size=bb)∧¬ (w.heap.size+1=mb∨w.heap.size+1=r∨w.heap.size+1=bb)):=fun W t=>by
            have t1:Turned (· = mb) V wr:=(TX.out.1.mono fun _ _ z=>z.elim).trans HT.out fun _ _ z=>z
            have t2:Turned (· = mb) V W3:=t1.trans HT3.out.1 fun _ _ z=>z.elim
            have h1:=TX.out.2.1
            have h2:=TX.out.2.2
            have h3:=t1.size
            have h4:=HT3.out.2.1
            have h5:=HT3.out.2.2.1
            have h6:=HM.out.lt
            refine ⟨t2.comp t fun i _ z=>z,((HWT.out wr HT.out).trans HT3.out.1 fun _ _ z=>z).comp t fun i hi z=>z.elim id fun z=>?_,by omega,by omega⟩
            have h7:=TV.out.size
            omega
          have hwr:W2.heap.size=r:=hr.symm
          rw [hwr,←hW3]at hrg
          have HW8:Hid (wrap64 (8 * (N:Int))=((8 * N:Nat):Int)):=by
            have h1:=HNP.out.2.2.2.2.2
            have h2:wrap64 (8 * (N:Int))=((8 * N:Nat):Int):=by simp only [wrap64];omega
            exact h2
          clear hW2 hbb tW2 hM2 sl2 hes hbo hbn hk hent hr hW3 tW3 hwr hmk hmx hw1 hw2 hw3 hlen v0 v1 v2 v3 v4 f0 f1 c0 c1 kl d1
          go_wp2
          go_loopg [11] (leftOf es #[]).size (fun g pv wr=>M2Rel s N es clock mb r bb W3 g wr)
          case atStart=>exact B3.out
          case round=>
            clear B3
            obtain ⟨seen,vis,c0,hg,hvis,hr,hc,hb,hsl,ht⟩:=hrel
            have HG2:Hid ((leftOf es seen).size=gk):=hg
            have HVS:Hid (Visit es seen vis):=hvis
            have HT2:Hid (Turned (fun b=>b=r∨b=bb) W3 wr):=ht
            have HSL:Hid _:=hidS hsl
            clear hvis hsl
            go_wp2_with (first | (at_next; refine wpList_next_es wr rfl _ rfl r mb clock c0 seen es rfl hr hb HB.out HNb.out hc ?_ ?_
                                  (intro h0;have H0:Hid ((leftOf es seen).size=0):=h0;clear h0 hg hr hc hb ht)
                                  rotate_left
                                  intro e w3 hem hel hen hr3 hb3 ht3 hz3 hlt
                                  have HL3:Hid ((leftOf es (seen.push e.born)).size<gk):=(by rw [←hg];exact hlt:(leftOf es (seen.push e.born)).size<gk)
                                  have T3:Hid (Turned (fun b=>b=r∨b=bb) W3 w3):=ht.trans ht3 fun _ _ z=>.inl z
                                  have R3:Hid (w3.heap[r]? = some (.mapIter (some mb) clock (seen.push e.born) clock)∧w3.heap[mb]? = some (.map es clock)):=⟨hr3,hb3⟩
                                  have V3:Hid (Visit es (seen.push e.born) (vis ++ [e])):=HVS.out.step HNb.out hel
                                  obtain ⟨p,hkey,hps⟩:=HE.out e hem
                                  have HKY:Hid (e.key = .string p∧p.size≤1000000000):=⟨hkey,hps⟩
                                  have SL3:Hid (Sl w3 (· = bb) 5 1 (.slice (some ⟨bb,0,none⟩) N N) (bcells (bytesU N (bitP s (8 * N) (vis.map keyB)))) N):=HSL.out.turned ht3 fun b hb z=>(by have:=HT3.out;omega)
                                  rw [hkey]at hen ⊢
                                  obtain ⟨v0,v1,v2,v3,v4⟩:=HBX.out w3 _ (HV3.out w3 T3.out).1 (HV3.out w3 T3.out).2.2.1
                                  have hpl:Calls Tryz.prog 130 #[.agg #[.int .i64 s.h,.int .i64 s.p,.int .i64 s.m,.int .u32 (s.seed:Nat)],.string p,.int .i64 (wrap64 (8 * (N:Int)))] w3 (PcPost w3 (intsN (placesB s p (8 * N)))):=(by rw [HW8.out];exact bplaces_any s p (8 * N) w3 HL0.out.2.2 hps (by have:=HNP.out.2.2.2.2.2;omega))
                                  have HPL:Hid _:=hidS hpl
                                  clear hem hel hr3 hb3 ht3 hz3 hlt hg hr hc hb ht hkey hps hpl)|(go_at_call 130;(with_reducible refine HPL.out.mono ?_);rintro e5 w5 ⟨v5,rfl,hsl5,ht5⟩;obtain ⟨a5,c5,rfl,-,-⟩:=hsl5.value;have P5:Hid _:=hidS (And.intro hsl5 ht5);clear hsl5 ht5))
            · obtain ⟨pl, hpl⟩ : ∃ pl, pl = placesB s p (8 * N) := ⟨_, rfl⟩
              have hpl16:pl.length≤16:=by rw [hpl];exact placesB_len _ _ _
              have HPLT:Hid (∀ x∈pl,x<8 * N):=fun x hx=>by rw [hpl]at hx;exact placesB_lt hx
              have HPD:Hid (pl=placesB s p (8 * N)):=hpl
              rw [←hpl]at P5
              obtain ⟨L5,hL5⟩:∃ L5,L5=(intsN pl).length:=⟨_,rfl⟩
              have HL5:Hid (L5=pl.length∧L5=(intsN pl).length∧L5≤16):=⟨by rw [hL5];simp [intsN],hL5,by rw [hL5];simpa [intsN] using hpl16⟩
              rw [←hpl,←hL5]
              have B5:Hid (M3Rel s N (vis.map keyB) pl bb w5 L5 (.int .i64 0) w5):=⟨0,by have:=HL5.out;omega,rfl,by rw [List.take_zero,bitQ_none];exact SL3.out.turned P5.out.2 fun _ _ z=>z,Turned.refl _ _⟩
              clear hpl hpl16 hL5 v0 v1 v2 v3 v4 hen HPL
              generalize wr=Wk at *
              generalize hgkk:gk=Gk at *
              clear hgkk
              go_loopg [59] L5 (fun g iv wr=>M3Rel s N (vis.map keyB) pl bb w5 g iv wr)
              case atStart=>exact B5.out
              case round=>
                clear B5
                obtain ⟨k,hkg,rfl,hsl,ht⟩:=hrel
                have GK:Hid (k+gk=pl.length):=hkg
                have HSK:Hid _:=hidS hsl
                have HTK:Hid (Turned (· = bb) w5 wr):=ht
                clear hkg ht
                by_cases hlt:k<L5
                · obtain ⟨x, hx⟩ : ∃ x, pl[k]? = some x := ⟨_, List.getElem?_eq_getElem (by rw [← HL5.out.1]; exact hlt)⟩
                  have HX:Hid (pl[k]? = some x∧x<8 * N):=⟨hx,HPLT.out x (List.mem_of_getElem? hx)⟩
                  obtain ⟨g,off,cap2,hva,hgs,-,-,hcell,-,hgl⟩:=P5.out.1.opens (by rw [←HL5.out.2.1];omega)
                  simp only [Value.slice.injEq]at hva
                  obtain ⟨rfl,-,-⟩:=hva
                  have hgb:¬ g=bb:=by have h1:=HT3.out.2.2.2.2;have h2:=T3.out.size;omega
                  have c0:wr.cell? ⟨g,off+k,none⟩=some (.int .i64 (x:Nat)):=cell_at (by
                    rw [hcell k (by rw [←HL5.out.2.1];omega)]
                    unfold intsN
                    rw [List.getElem?_map,List.getElem?_map,hx];rfl) HTK.out hgb
                  have hgr:g<wr.heap.size:=Nat.lt_of_lt_of_le hgl HTK.out.size
                  obtain ⟨y,hy⟩:∃ y,y=x / 8:=⟨_,rfl⟩
                  obtain ⟨t,htt⟩:∃ t,t=x % 8:=⟨_,rfl⟩
                  have hyN:y<N:=by have:=HX.out.2;omega
                  obtain ⟨b,hbd⟩:∃ b,b=byteP (bitQ s (8 * N) (vis.map keyB) (pl.take k)) y:=⟨_,rfl⟩
                  have hb256:b<256:=by rw [hbd];exact byteP_lt _ _
                  obtain ⟨g2,off2,cap3,hvb,-,-,-,hcell2,hfr2,hgl2⟩:=HSK.out.opens (by have:=HNP.out.2.2.2.2.1;omega)
                  simp only [Value.slice.injEq,Option.some.injEq,Addr.mk.injEq]at hvb
                  obtain ⟨⟨rfl,rfl,-⟩,-,rfl⟩:=hvb
                  have c1:wr.cell? ⟨bb,y,none⟩=some (.int .u8 (b:Nat)):=by
                    have:=hcell2 y (by omega)
                    rw [Nat.zero_add]at this
                    rw [this]
                    unfold bcells
                    rw [List.getElem?_map,bytesU_get _ hyN,←hbd]
                    simp [UInt8.toNat_ofNat',Nat.mod_eq_of_lt hb256]
                  have f1:=hfr2 y
                  have ht8:t<8:=by omega
                  have HYT:Hid (y=x / 8∧t=x % 8∧b=byteP (bitQ s (8 * N) (vis.map keyB) (pl.take k)) y∧b<256):=⟨hy,htt,hbd,hb256⟩
                  obtain ⟨hw1,hw2⟩:=wrap_nat y (by have:=HNP.out.2.2.2.2.2;omega)
                  obtain ⟨hw3,hw4⟩:=wrap_nat t (by omega)
                  obtain ⟨X,hX1,hX2,hX3⟩:=divs x y t hy htt
                  rw [←hX1]at c0
                  have HXX:Hid (X=(x:Int)):=hX1
                  clear hx hcell hgl hX1 hy htt hbd hb256 hcell2 hfr2 hgs hsl
                  obtain ⟨hY1,hY2⟩:=divs_wrap X y hX2 hw1 hw2
                  clear hX2 hw3 hw4
                  rcases (show t=0∨t=1∨t=2∨t=3∨t=4∨t=5∨t=6∨t=7 by clear hX3;omega) with rfl|rfl|rfl|rfl|rfl|rfl|rfl|rfl
                  all_goals go_upto_region 19 with (fail)
                  all_goals go_region
                  all_goals go_wp2
                  all_goals
                    go_roundg (gk - 1)
                    case measure=>have:=GK.out;have:=HL5.out;omega
                    case rel=>
                      refine ⟨k+1,by have:=GK.out;have:=HL5.out;omega,by have:=HL5.out;simp [wrap64];omega,?_,(HTK.out.set (p:=⟨bb,y,none⟩) rfl _).draw⟩
                      have e1:pl.take (k+1)=pl.take k ++ [x]:=by rw [List.take_add_one,HX.out.1];rfl
                      rw [e1,←bitQ_snoc]
                      exact bit_set HSK.out HX.out.2 HYT.out.1 HYT.out.2.1 HYT.out.2.2.1 _ (by decide)
                · have hk : pl.take k = pl := List.take_of_length_le (by have := HL5.out; omega)
                  have hkL:k=L5:=by have:=GK.out;have:=HL5.out;omega
                  have HE5:Hid (bitQ s (8 * N) (vis.map keyB) (pl.take k)=bitP s (8 * N) ((vis ++ [e]).map keyB)):=hidS (by
                    rw [hk,HPD.out,bitQ_all,List.map_append,List.map_cons,List.map_nil,keyB_eq HKY.out.1])
                  clear hk hlt hsl
                  subst hkL
                  go_wp2
                  go_roundg ((leftOf es (seen.push e.born)).size)
                  case measure=>exact HL3.out
                  case rel=>
                    have t5:Turned (· = bb) w3 wr:=(P5.out.2.mono fun _ _ z=>z.elim).trans HTK.out fun _ _ z=>z
                    have h1:=HT3.out
                    have h2:=T3.out.size
                    have h3:=HM.out.lt
                    refine ⟨seen.push e.born,vis ++ [e],clock,rfl,V3.out,(t5.block r (by omega) (by omega)).trans R3.out.1,Nat.le_refl _,(t5.block mb (by omega) (by omega)).trans R3.out.2,?_,T3.out.trans t5 fun _ _ z=>.inr z⟩
                    rw [←HE5.out]
                    exact HSK.out
            · obtain ⟨q1, q2, q3, q4⟩ := HV3.out wr HT2.out
              have k0:=HFX.out wr _ q1 q4
              have f0:=free_of k0 0
              have f1:=free_of k0 1
              have c0:=cell_of k0 0 _ rfl
              have c1:=cell_of k0 1 _ rfl
              have kl:=lt_of_block k0
              clear k0 q1 q3 q4
              have hbk:=sl_back (bs:=bytesU N (bitP s (8 * N) (vis.map keyB))) (by rw [bytesU_len];exact HSL.out)
              have hpm:=keys_perm (HVS.out.done H0.out) HK.out
              have HMS:Hid (makeF s l=⟨1,⟨(bytesU N (bitP s (8 * N) (vis.map keyB))).toArray⟩⟩):=hidS (by
                have e1:manyB s (once l).length=N:=by
                  unfold manyB
                  rw [←HN.out,←HPP.out.1,←HNP.out.1,←HNP.out.2.2.1,←HNP.out.2.2.2.1]
                rw [makeF_small (by have:=HN.out;have:=HWM.out;have:=HNM.out;omega),e1,bitP_perm hpm])
              have HQ:Hid (Turned (fun _=>False) w wr):=q2
              clear hpm q2
              generalize (bytesU N (bitP s (8 * N) (vis.map keyB))).toArray=BB at *
              have k0' : wr.cell? ⟨w.heap.size+1,0,none⟩=some (.int .i64 0):=c0
              have k1' : wr.cell? ⟨w.heap.size+1,1,none⟩=some (.string ⟨#[]⟩):=c1
              clear c0 c1
              go_simp
              go_wp2
              refine bodyPost_ret (v:=.tuple #[fltv ⟨1,⟨BB⟩⟩,.int .i64 0]) (by simp [results,Tryz.results232,go_sem,k0',k1',kl,f0,f1]) rfl ?_
              rw [HZ.out]
              exact ⟨by unfold mkV;rw [if_pos HG.out,HMS.out],(HQ.out.fresh (Nat.le_succ _) _).fresh (Nat.le_succ _) _⟩
  · rw [if_neg hg] at HCK
    have HE:Hid (mkV s l = .tuple #[fltv ⟨0,⟨#[]⟩⟩,.int .i64 1]):=hidS (by unfold mkV;rw [if_neg hg])
    clear hZ hV tV xS xF hg h hl hs hsd
    have f0:=HFX.out
    go_enter Tryz.func232,Tryz.ntmps232
    go_wp2_with fail
    rw [←HVV.out]
    go_wp2_with (go_at_call 131;(with_reducible refine HCK.out.mono ?_);rintro e w1 ⟨rfl,q⟩;have k0:=HFX.out w1 _ q id;have f0:=free_of k0 0;have f1:=free_of k0 1;have c0:=cell_of k0 0 _ rfl;have c1:=cell_of k0 1 _ rfl;have kl:=lt_of_block k0;replace q:Hid _:=hidS q)
    refine bodyPost_ret (v:=.tuple #[fltv ⟨0,⟨#[]⟩⟩,.int .i64 1]) (by simp [results,Tryz.results232,go_sem,c0,c1,kl,f0,f1]) rfl ?_
    rw [HZ.out]
    exact ⟨by rw [HE.out],((TV.out.trans q.out fun _ _ z=>z).fresh (Nat.le_succ _) _).fresh (Nat.le_succ _) _⟩
end Go.Proofs.YtofcogekgcgjhaaGreatDoor
