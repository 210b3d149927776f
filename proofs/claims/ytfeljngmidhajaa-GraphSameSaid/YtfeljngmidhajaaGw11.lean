/- Graph files: the walk of Encode. -/
import Derived.Test.YtfeljngmidhajaaGt
import Derived.Lib.Hide
import Derived.Test.YtfeljngmidhajaaRbuild
namespace Go.Proofs.Ytfeljngmidhajaa
open Go.RowKit Go.Mine

def EnRel (rows : List Rw) (H : List UInt8) (P : Nat → Nat) (K : Nat → Prop) (w : World) (g : Nat) (i : Value) (wr : World) : Prop :=
  ∃ j : Nat, j + g = rows.length ∧ i = .int .i64 j ∧ Wrs wr K 5 P (five H (tellT (rows.take j)).R (tellT (rows.take j)).E (tellT (rows.take j)).N (tellT (rows.take j)).B) ∧ (tellT (rows.take j)).B.length ≤ 4194304 ∧ Turned (fun b => ¬ K b) w wr

theorem ba_len (s : ByteArray) : s.data.toList.length = s.size := by simp
section
variable {w : World} {K : Nat → Prop} {P : Nat → Nat} {H R E N B : List UInt8}
theorem u8_f0 (h : Wrs w K 5 P (five H R E N B)) (v : Nat) (hv : v < 256) (hL : H.length ≤ 1000000) :
    Calls Try.prog 45 #[pt (P 0), .int .u8 v] w fun e w' => e = .returned (.tuple #[]) ∧ Wrs w' K 5 P (five (H ++ num v 1) R E N B) ∧ Turned (fun b => ¬ K b) w w' := by
  have := u8_ws h 0 v (by decide) hv (by show H.length + 1 ≤ _; omega)
  rwa [five0] at this
theorem u16_f0 (h : Wrs w K 5 P (five H R E N B)) (v : Nat) (hv : v < 65536) (hL : H.length ≤ 1000000) :
    Calls Try.prog 51 #[pt (P 0), .int .u16 v] w fun e w' => e = .returned (.tuple #[]) ∧ Wrs w' K 5 P (five (H ++ num v 2) R E N B) ∧ Turned (fun b => ¬ K b) w w' := by
  have := u16_ws h 0 v (by decide) hv (by show H.length + 2 ≤ _; omega)
  rwa [five0] at this
theorem u32_f0 (h : Wrs w K 5 P (five H R E N B)) (v : Nat) (hv : v < 4294967296) (hL : H.length ≤ 1000000) :
    Calls Try.prog 46 #[pt (P 0), .int .u32 v] w fun e w' => e = .returned (.tuple #[]) ∧ Wrs w' K 5 P (five (H ++ num v 4) R E N B) ∧ Turned (fun b => ¬ K b) w w' := by
  have := u32_ws h 0 v (by decide) hv (by show H.length + 4 ≤ _; omega)
  rwa [five0] at this
theorem u32_f3 (h : Wrs w K 5 P (five H R E N B)) (v : Nat) (hv : v < 4294967296) (hL : N.length ≤ 1000000) :
    Calls Try.prog 46 #[pt (P 3), .int .u32 v] w fun e w' => e = .returned (.tuple #[]) ∧ Wrs w' K 5 P (five H R E (N ++ num v 4) B) ∧ Turned (fun b => ¬ K b) w w' := by
  have := u32_ws h 3 v (by decide) hv (by show N.length + 4 ≤ _; omega)
  rwa [five3] at this
theorem raw_f4 (h : Wrs w K 5 P (five H R E N B)) (s : ByteArray) (hL : B.length + s.size ≤ 1000000000) :
    Calls Try.prog 44 #[pt (P 4), .string s] w fun e w' => e = .returned (.tuple #[]) ∧ Wrs w' K 5 P (five H R E N (B ++ s.data.toList)) ∧ Turned (fun b => ¬ K b) w w' := by
  refine (raw_ws h 4 s (by decide) (by show B.length + s.size ≤ _; omega)).mono fun e w' ⟨h1, h2, h3⟩ => ⟨h1, h2.congr (fun _ _ => rfl) fun i hi => (five4 _ _ _ _ _ _ i hi).symm, h3⟩
theorem row_f {S : Nat → Prop} (h : Wrs w K 5 P (five H R E N B)) (a : Option Addr) (cap : Nat) (r : Rw) (n : Int) (hi : Ints w S a cap r.par) (hg : goodR r n) (hn : n ≤ 131072) (hS : ∀ b, S b → K b) (h1 : R.length ≤ 1000000000) (h2 : E.length ≤ 1000000000) :
    Calls Try.prog 52 #[pt (P 1), pt (P 2), rowv a cap r] w fun e w' => e = .returned (.tuple #[]) ∧ Wrs w' K 5 P (five H (R ++ rowB r E.length) (E ++ edgeB r) N B) ∧ Turned (fun b => ¬ K b) w w' := by
  have := row_any S a cap r n w hi hg hn h (by decide) hS h1 h2
  have e : upd (upd (five H R E N B) 2 (five H R E N B 2 ++ edgeB r)) 1 (five H R E N B 1 ++ rowB r (five H R E N B 2).length) = five H (R ++ rowB r E.length) (E ++ edgeB r) N B := five_row _ _ _ _ _ _ _
  rwa [e] at this
end

set_option maxRecDepth 100000 in
set_option maxHeartbeats 4000000 in
theorem encode_any (S0 : Nat → Prop) (a : Option Addr) (cap : Nat) (g : Gr) (w : World) (h0 : RwIs w S0 a cap g.rows) (hok : GrOk g) :
    Calls Try.prog 24 #[grv a cap g] w fun e w' => e = .returned (encG g) ∧ Turned (fun _ => False) w w' := by
  have h := h0.bound
  obtain ⟨L, hL⟩ : ∃ L, L = g.rows.length := ⟨_, rfl⟩
  have HL : Hid (L = g.rows.length) := hL
  have hck : Calls Try.prog 26 #[.agg #[.int .i64 g.base, .int .i64 g.h, .int .i64 g.p, .int .i64 g.m, .int .u32 (g.seed : Nat), .slice a L cap]] (w.alloc (.cells #[.int .i64 g.base, .int .i64 g.h, .int .i64 g.p, .int .i64 g.m, .int .u32 (g.seed : Nat), .slice a L cap] 40)) fun e w' => e = .returned (.int .i64 (grErr g : Nat)) ∧ Turned (fun _ => False) (w.alloc (.cells #[.int .i64 g.base, .int .i64 g.h, .int .i64 g.p, .int .i64 g.m, .int .u32 (g.seed : Nat), .slice a L cap] 40)) w' := by
    rw [hL]
    exact check_any S0 a cap g _ (h0.turned (Turned.alloc (fun _ => False) w _) fun _ _ q => q)
  unfold grv
  rw [← hL]
  by_cases hg : goodG g
  · rw [grErr_yes hg] at hck
    have hgg := hg
    obtain ⟨⟨n1, n2, n3⟩, ⟨s1, s2, s3, s4, s5, s6⟩, hrows⟩ := hgg
    rw [← hL] at n3
    obtain ⟨bn, hbn⟩ : ∃ k : Nat, g.base = (k : Int) := ⟨g.base.toNat, by omega⟩
    obtain ⟨hn, hhn⟩ : ∃ k : Nat, g.h = (k : Int) := ⟨g.h.toNat, by omega⟩
    obtain ⟨pn, hpn⟩ : ∃ k : Nat, g.p = (k : Int) := ⟨g.p.toNat, by omega⟩
    obtain ⟨mn, hmn⟩ : ∃ k : Nat, g.m = (k : Int) := ⟨g.m.toNat, by omega⟩
    obtain ⟨sn, hsn⟩ : ∃ k, k = g.seed := ⟨_, rfl⟩
    have hseed : sn < 4294967296 := by rw [hsn]; exact hok.2.2.2.2
    have HH : Hid (headB g = num bn 4 ++ num L 4 ++ num hn 1 ++ num pn 1 ++ num mn 2 ++ num sn 4) := by
      have q : headB g = num bn 4 ++ num L 4 ++ num hn 1 ++ num pn 1 ++ num mn 2 ++ num sn 4 := by unfold headB; rw [hbn, hhn, hpn, hmn, ← hL, ← hsn]; simp
      exact q
    have LONG : Hid (4194304 < (tellT g.rows).B.length → encG g = .tuple #[.string ⟨#[]⟩, .int .i64 5]) := by
      have q : 4194304 < (tellT g.rows).B.length → encG g = .tuple #[.string ⟨#[]⟩, .int .i64 5] := fun q => by unfold encG; rw [if_pos (grErr_yes hg), if_pos q]
      exact q
    have WELL : Hid (¬ 4194304 < (tellT g.rows).B.length → encG g = buildV (chunksG g)) := by
      have q : ¬ 4194304 < (tellT g.rows).B.length → encG g = buildV (chunksG g) := fun q => by unfold encG; rw [if_pos (grErr_yes hg), if_neg q]
      exact q
    have CHK : Hid (chunksG g = [(1, ⟨(headB g).toArray⟩), (2, ⟨(tellT g.rows).R.toArray⟩), (3, ⟨(tellT g.rows).E.toArray⟩), (4, ⟨(tellT g.rows).N.toArray⟩), (5, ⟨(tellT g.rows).B.toArray⟩)]) := rfl
    have GR : Hid (∀ (i : Nat) (r : Rw), g.rows[i]? = some r → goodR r ((bn : Int) + i) ∧ ((bn : Int) + i) ≤ 131072) := by
      have q : ∀ (i : Nat) (r : Rw), g.rows[i]? = some r → goodR r ((bn : Int) + i) ∧ ((bn : Int) + i) ≤ 131072 := fun i r hr => by
        rw [← hbn]
        refine ⟨hrows i r hr, ?_⟩
        have := (List.getElem?_eq_some_iff.1 hr).1
        omega
      exact q
    rw [hbn, hhn, hpn, hmn, ← hsn] at hck ⊢
    have m1 : ((bn : Nat) : Int) % 4294967296 = (bn : Int) := by omega
    have m2 : ((L : Nat) : Int) % 4294967296 = (L : Int) := by omega
    have m3 : ((hn : Nat) : Int) % 256 = (hn : Int) := by omega
    have m4 : ((pn : Nat) : Int) % 256 = (pn : Int) := by omega
    have m5 : ((mn : Nat) : Int) % 65536 = (mn : Int) := by omega
    have NB : Hid (bn ≤ 65536 ∧ L ≤ 65536 ∧ hn ≤ 16 ∧ pn ≤ 64 ∧ mn ≤ 512 ∧ sn < 4294967296) := (by omega : bn ≤ 65536 ∧ L ≤ 65536 ∧ hn ≤ 16 ∧ pn ≤ 64 ∧ mn ≤ 512 ∧ sn < 4294967296)
    have HI : Hid (RwIs w (fun b => b < w.heap.size) a cap g.rows) := h
    generalize encG g = EV at *
    generalize headB g = HB at *
    generalize chunksG g = CG at *
    generalize g.rows = rows at *
    clear hbn hhn hpn hmn hsn hL h h0 hok hg n1 n2 n3 s1 s2 s3 s4 s5 s6 hrows hseed
    go_enter Try.func24, Try.ntmps24
    go_wp2_with (first
      | (go_at_call 26; (with_reducible refine hck.mono ?_); rintro e w1 ⟨rfl, ht1⟩; have W1 : Hid (w1.heap[w.heap.size]? = some (.cells #[.int .i64 (bn : Nat), .int .i64 (hn : Nat), .int .i64 (pn : Nat), .int .i64 (mn : Nat), .int .u32 (sn : Nat), .slice a L cap] 40 (0, 0)) ∧ Turned (fun _ => False) w w1) := ⟨(ht1.block _ (by simp) fun q => q).trans (heap_alloc_last w _), (Turned.alloc _ _ _).trans ht1 fun _ _ q => q⟩; obtain ⟨P0, hP0⟩ : ∃ P0 : Nat → Nat, P0 = fun _ => 0 := ⟨_, rfl⟩; obtain ⟨F0, hF0⟩ : ∃ F0 : Nat → List UInt8, F0 = fun _ => [] := ⟨_, rfl⟩; clear hP0 hF0; have hn0 := newWriter_ws (Wrs.none w1 (fun b => b < w1.heap.size) (fun _ q => q) P0 F0); clear ht1)
      | (go_at_call 43; (with_reducible refine hn0.mono ?_); rintro e w2 ⟨rfl, hs2, ht2⟩; have W2 : Hid (Turned (fun _ => False) w1 w2) := ht2; have hn1 := newWriter_ws hs2; clear hn0 hs2 ht2)
      | (go_at_call 43; (with_reducible refine hn1.mono ?_); rintro e w3 ⟨rfl, hs3, ht3⟩; have W3 : Hid (Turned (fun _ => False) w1 w3) := W2.out.trans ht3 (fun _ _ q => q); have hn2 := newWriter_ws hs3; clear hn1 hs3 ht3)
      | (go_at_call 43; (with_reducible refine hn2.mono ?_); rintro e w4 ⟨rfl, hs4, ht4⟩; have W4 : Hid (Turned (fun _ => False) w1 w4) := W3.out.trans ht4 (fun _ _ q => q); have hn3 := newWriter_ws hs4; clear hn2 hs4 ht4)
      | (go_at_call 43; (with_reducible refine hn3.mono ?_); rintro e w5 ⟨rfl, hs5, ht5⟩; have W5 : Hid (Turned (fun _ => False) w1 w5) := W4.out.trans ht5 (fun _ _ q => q); have hn4 := newWriter_ws hs5; clear hn3 hs5 ht5)
      | (go_at_call 43; (with_reducible refine hn4.mono ?_); rintro e w6 ⟨rfl, hs6, ht6⟩; have W6 : Hid (Turned (fun _ => False) w1 w6) := W5.out.trans ht6 (fun _ _ q => q); have HS6 : Hid (Wrs w6 (fun b => b < w1.heap.size) 5 (five w1.heap.size w2.heap.size w3.heap.size w4.heap.size w5.heap.size) (five [] [] [] [] [])) := hs6.congr (fun i hi => (five_new _ _ _ _ _ P0 i hi).symm) (fun i hi => (five_new _ _ _ _ _ F0 i hi).symm); have BX : Hid (∀ W, Turned (fun b => ¬ b < w1.heap.size) w6 W → W.heap[w.heap.size]? = some (.cells #[.int .i64 (bn : Nat), .int .i64 (hn : Nat), .int .i64 (pn : Nat), .int .i64 (mn : Nat), .int .u32 (sn : Nat), .slice a L cap] 40 (0, 0))) := (fun W t => ((t.block _ (by have := lt_of_block W1.out.1; have := W6.out.size; omega) fun q => q (lt_of_block W1.out.1)).trans (W6.out.block _ (lt_of_block W1.out.1) fun q => q)).trans W1.out.1); have y0 := cell_of (BX.out w6 (Turned.refl _ _)) 0 _ rfl; have yl0 := lt_of_block (BX.out w6 (Turned.refl _ _)); have hA1 : Calls Try.prog 46 #[pt w1.heap.size, .int .u32 (bn : Nat)] w6 _ := u32_f0 HS6.out bn (by have := NB.out; omega) (by decide); clear hn4 hs6 ht6)
      | (go_at_call 46; (with_reducible refine hA1.mono ?_); rintro e w7 ⟨rfl, hsw7, htw7⟩; have V7 : Hid (Turned (fun b => ¬ b < w1.heap.size) w6 w7) := htw7; have y1 := cell_of (BX.out w7 V7.out) 5 _ rfl; have yl1 := lt_of_block (BX.out w7 V7.out); have hA2 : Calls Try.prog 46 #[pt w1.heap.size, .int .u32 (L : Nat)] w7 _ := u32_f0 hsw7 L (by have := NB.out; omega) (by simp [num_length]); clear hA1 hsw7 htw7)
      | (go_at_call 46; (with_reducible refine hA2.mono ?_); rintro e w8 ⟨rfl, hsw8, htw8⟩; have V8 : Hid (Turned (fun b => ¬ b < w1.heap.size) w6 w8) := V7.out.trans htw8 (fun _ _ q => q); have y2 := cell_of (BX.out w8 V8.out) 1 _ rfl; have yl2 := lt_of_block (BX.out w8 V8.out); have hA3 : Calls Try.prog 45 #[pt w1.heap.size, .int .u8 (hn : Nat)] w8 _ := u8_f0 hsw8 hn (by have := NB.out; omega) (by simp [num_length]); clear hA2 hsw8 htw8)
      | (go_at_call 45; (with_reducible refine hA3.mono ?_); rintro e w9 ⟨rfl, hsw9, htw9⟩; have V9 : Hid (Turned (fun b => ¬ b < w1.heap.size) w6 w9) := V8.out.trans htw9 (fun _ _ q => q); have y3 := cell_of (BX.out w9 V9.out) 2 _ rfl; have yl3 := lt_of_block (BX.out w9 V9.out); have hA4 : Calls Try.prog 45 #[pt w1.heap.size, .int .u8 (pn : Nat)] w9 _ := u8_f0 hsw9 pn (by have := NB.out; omega) (by simp [num_length]); clear hA3 hsw9 htw9)
      | (go_at_call 45; (with_reducible refine hA4.mono ?_); rintro e w10 ⟨rfl, hsw10, htw10⟩; have V10 : Hid (Turned (fun b => ¬ b < w1.heap.size) w6 w10) := V9.out.trans htw10 (fun _ _ q => q); have y4 := cell_of (BX.out w10 V10.out) 3 _ rfl; have yl4 := lt_of_block (BX.out w10 V10.out); have hA5 : Calls Try.prog 51 #[pt w1.heap.size, .int .u16 (mn : Nat)] w10 _ := u16_f0 hsw10 mn (by have := NB.out; omega) (by simp [num_length]); clear hA4 hsw10 htw10)
      | (go_at_call 51; (with_reducible refine hA5.mono ?_); rintro e w11 ⟨rfl, hsw11, htw11⟩; have V11 : Hid (Turned (fun b => ¬ b < w1.heap.size) w6 w11) := V10.out.trans htw11 (fun _ _ q => q); have y5 := cell_of (BX.out w11 V11.out) 4 _ rfl; have yl5 := lt_of_block (BX.out w11 V11.out); have hA6 : Calls Try.prog 46 #[pt w1.heap.size, .int .u32 (sn : Nat)] w11 _ := u32_f0 hsw11 sn (by have := NB.out; omega) (by simp [num_length]); clear hA5 hsw11 htw11)
      | (go_at_call 46; (with_reducible refine hA6.mono ?_); rintro e w12 ⟨rfl, hsw12, htw12⟩; have V12 : Hid (Turned (fun b => ¬ b < w1.heap.size) w6 w12) := V11.out.trans htw12 (fun _ _ q => q); have y6 := cell_of (BX.out w12 V12.out) 5 _ rfl; have yl6 := lt_of_block (BX.out w12 V12.out); have HS12 : Hid (Wrs w12 (fun b => b < w1.heap.size) 5 (five w1.heap.size w2.heap.size w3.heap.size w4.heap.size w5.heap.size) (five HB [] [] [] [])) := (by rw [HH.out]; simpa only [List.nil_append] using hsw12 : Wrs w12 (fun b => b < w1.heap.size) 5 (five w1.heap.size w2.heap.size w3.heap.size w4.heap.size w5.heap.size) (five HB [] [] [] [])); clear hA6 hsw12 htw12))
    have HS : Hid (EnRel rows HB (five w1.heap.size w2.heap.size w3.heap.size w4.heap.size w5.heap.size) (fun b => b < w1.heap.size) w6 L (.int .i64 0) w12) := ⟨0, by rw [HL.out, Nat.zero_add], rfl, HS12.out, by simp [tellT], V12.out⟩
    clear y0 y1 y2 y3 y4 y5 y6 yl0 yl1 yl2 yl3 yl4 yl5 yl6 hck
    go_loopg [56] L (fun g i wr => EnRel rows HB (five w1.heap.size w2.heap.size w3.heap.size w4.heap.size w5.heap.size) (fun b => b < w1.heap.size) w6 g i wr)
    case atStart => exact HS.out
    case round =>
      obtain ⟨j, hjg, rfl, hws, hbl, htr⟩ := hrel
      have G : Hid (j + gk = rows.length) := hjg
      have T : Hid (Turned (fun b => ¬ b < w1.heap.size) w6 wr) := htr
      have BL : Hid ((tellT (rows.take j)).B.length ≤ 4194304) := hbl
      have WS : Hid (Wrs wr (fun b => b < w1.heap.size) 5 (five w1.heap.size w2.heap.size w3.heap.size w4.heap.size w5.heap.size) (five HB (tellT (rows.take j)).R (tellT (rows.take j)).E (tellT (rows.take j)).N (tellT (rows.take j)).B)) := hws
      have hz61 : w1.heap.size ≤ wr.heap.size := by have := W6.out.size; have := htr.size; omega
      have hLm : j + gk ≤ 65536 := by have := NB.out; have := HL.out; omega
      clear hjg hws htr hbl HS
      by_cases hlt : j < L
      · obtain ⟨r, hr⟩ : ∃ r, rows[j]? = some r := ⟨_, List.getElem?_eq_getElem (by rw [← HL.out]; exact hlt)⟩
        obtain ⟨hgr, hgn⟩ := GR.out j r hr
        have hrows16 : ∀ x ∈ rows.take j, x.par.length ≤ 16 := fun x hx => by
          obtain ⟨i, hi⟩ := List.getElem?_of_mem (List.mem_of_mem_take hx)
          exact (GR.out i x hi).1.1
        have hE := tellT_E (rows.take j) hrows16
        have hR := tellT_R (rows.take j)
        have hN := tellT_N (rows.take j)
        have htk : (rows.take j).length ≤ 65536 := by have := NB.out; have := HL.out; simp only [List.length_take]; omega
        have hst := tellT_take rows j r hr
        have hmono := tellT_B_mono rows (j + 1)
        have hbits : r.bits.size ≤ 4096 := (goodF_state hgr.2.2.2.2.2.2).2.2
        obtain ⟨b, off, rfl, hS, hbw, ra, rcap, hints, c0, c1, c2, c3, c4⟩ := rows_at (((HI.out.turned W1.out.2 fun _ _ q => q).turned W6.out fun _ _ q => q).turned T.out fun b q z => z (Nat.lt_of_lt_of_le q W1.out.2.size)) j r hr
        have hW2 := WS.out.turned ((Turned.alloc (fun _ => False) wr (.cells #[.slice ra r.par.length rcap, .int .i64 r.tree, .int .i64 r.gen, .int .i64 r.state, .string r.bits] 61)).mono fun _ _ q => q.elim)
        have hz2 : (wr.alloc (.cells #[.slice ra r.par.length rcap, .int .i64 r.tree, .int .i64 r.gen, .int .i64 r.state, .string r.bits] 61)).heap.size = wr.heap.size + 1 := by simp
        have hrow : Calls Try.prog 52 #[pt w2.heap.size, pt w3.heap.size, rowv ra rcap r] _ _ := row_f hW2 ra rcap r _ (hints.turned (Turned.alloc (fun _ => False) wr _) fun _ _ q => q) hgr hgn (fun b q => .inl (Nat.lt_of_lt_of_le q W1.out.2.size)) (by omega) (by omega)
        have hbx := heap_alloc_last wr (.cells #[.slice ra r.par.length rcap, .int .i64 r.tree, .int .i64 r.gen, .int .i64 r.state, .string r.bits] 61)
        have hcv : ∀ W, Turned (fun b => ¬ (b < w1.heap.size ∨ (wr.heap.size ≤ b ∧ b < (wr.alloc (.cells #[.slice ra r.par.length rcap, .int .i64 r.tree, .int .i64 r.gen, .int .i64 r.state, .string r.bits] 61)).heap.size))) (wr.alloc (.cells #[.slice ra r.par.length rcap, .int .i64 r.tree, .int .i64 r.gen, .int .i64 r.state, .string r.bits] 61)) W → W.cell? ⟨wr.heap.size, 4, none⟩ = some (.string r.bits) ∧ wr.heap.size < W.heap.size := fun W t => by
          have h1 := (t.block wr.heap.size (by omega) fun q => q (.inr ⟨Nat.le_refl _, by omega⟩)).trans hbx
          exact ⟨cell_of h1 4 _ rfl, lt_of_block h1⟩
        have hT : ∀ W, Turned (fun b => ¬ (b < w1.heap.size ∨ (wr.heap.size ≤ b ∧ b < (wr.alloc (.cells #[.slice ra r.par.length rcap, .int .i64 r.tree, .int .i64 r.gen, .int .i64 r.state, .string r.bits] 61)).heap.size))) (wr.alloc (.cells #[.slice ra r.par.length rcap, .int .i64 r.tree, .int .i64 r.gen, .int .i64 r.state, .string r.bits] 61)) W → Turned (fun b => ¬ b < w1.heap.size) w6 W := fun W t =>
          (T.out.new _).comp t fun b hb q => q.elim id fun q z => q (.inl z)
        have CV : Hid _ := Go.Lib.hid hcv
        have HT : Hid _ := Go.Lib.hid hT
        have SZ : Hid ((tellT (rows.take j)).N.length ≤ 262144 ∧ r.bits.size ≤ 4096) := ⟨by omega, hbits⟩
        generalize htt : tellT (rows.take j) = tt at *
        have ST : Hid (tellT (rows.take (j + 1)) = stepT tt r) := hst
        obtain ⟨lb, hlb⟩ : ∃ lb, lb = (tt.B ++ r.bits.data.toList).length := ⟨_, rfl⟩
        have hlbb : lb ≤ 4198400 := by
          have := BL.out
          rw [hlb, List.length_append]
          have e := ba_len r.bits
          omega
        have hm : ((lb : Nat) : Int) % 4294967296 = (lb : Int) := by omega
        have MONO : Hid (lb ≤ (tellT rows).B.length) := by
          have q : lb ≤ (tellT rows).B.length := by rw [hst] at hmono; rw [hlb]; exact hmono
          exact q
        have LB : Hid (lb = (tt.B ++ r.bits.data.toList).length ∧ lb ≤ 4198400) := ⟨hlb, hlbb⟩
        clear hr hgr hgn hrows16 hE hR hN htk hst hmono hbits hints hcv hT hbx hW2 hlb htt
        unfold rowv at hrow
        by_cases hlong : 4194304 < lb
        · have d1 : decide ((4194304 : Int) < (lb : Int)) = true := decide_eq_true (by omega)
          have HEV : Hid (EV = .tuple #[.string ⟨#[]⟩, .int .i64 5]) := LONG.out (Nat.lt_of_lt_of_le hlong MONO.out)
          clear hlong
          go_wp2_with (first 
            | (go_at_call 52; (with_reducible refine hrow.mono ?_); rintro e u2 ⟨rfl, hsu, htu⟩; obtain ⟨yb, ybl⟩ := CV.out u2 htu; have U2 : Hid _ := Go.Lib.hid htu; have hraw : Calls Try.prog 44 #[pt w5.heap.size, .string r.bits] u2 _ := raw_f4 hsu r.bits (by have := BL.out; have := SZ.out.2; omega); clear hsu htu hrow)
            | (go_at_call 44; (with_reducible refine hraw.mono ?_); rintro e u3 ⟨rfl, hsu, htu⟩; have U3 : Hid _ := Go.Lib.hid (U2.out.trans htu (fun _ _ q => q)); have hlen : Calls Try.prog 53 #[pt w5.heap.size] u3 fun e w' => e = .returned (.int .i64 (lb : Nat)) ∧ u3 = w' := (by rw [LB.out.1]; exact len_ws hsu 4 (by decide)); have hend : Calls Try.prog 46 #[pt w4.heap.size, .int .u32 (lb : Nat)] u3 _ := u32_f3 hsu lb (by have := LB.out.2; omega) (by have := SZ.out.1; omega); clear hsu htu hraw)
            | (go_at_call 53; (with_reducible refine hlen.mono ?_); rintro e ux ⟨rfl, rfl⟩)
            | (go_at_call 46; (with_reducible refine hend.mono ?_); rintro e u4 ⟨rfl, hsu, htu⟩; have U4 : Hid _ := Go.Lib.hid (U3.out.trans htu (fun _ _ q => q)); have WU4 : Hid _ := Go.Lib.hid hsu; have hlen4 : Calls Try.prog 53 #[pt w5.heap.size] u4 fun e w' => e = .returned (.int .i64 (lb : Nat)) ∧ u4 = w' := (by rw [LB.out.1]; exact len_ws hsu 4 (by decide)); clear hsu htu hend hlen)
            | (go_at_call 53; (with_reducible refine hlen4.mono ?_); rintro e ux ⟨rfl, rfl⟩))
          go_ret2
          exact ⟨by rw [HEV.out]; rfl, W1.out.2.comp (W6.out.comp (HT.out u4 U4.out) (T := fun b => ¬ b < w1.heap.size) fun b hb q => q.elim (fun q => q.elim) id) fun b hb q => q.elim id fun q => q (Nat.lt_of_lt_of_le hb W1.out.2.size)⟩
        · have d1 : decide ((4194304 : Int) < (lb : Int)) = false := decide_eq_false (by omega)
          have HLN : Hid (lb ≤ 4194304) := (by omega : lb ≤ 4194304)
          clear hlong
          go_wp2_with (first 
            | (go_at_call 52; (with_reducible refine hrow.mono ?_); rintro e u2 ⟨rfl, hsu, htu⟩; obtain ⟨yb, ybl⟩ := CV.out u2 htu; have U2 : Hid _ := Go.Lib.hid htu; have hraw : Calls Try.prog 44 #[pt w5.heap.size, .string r.bits] u2 _ := raw_f4 hsu r.bits (by have := BL.out; have := SZ.out.2; omega); clear hsu htu hrow)
            | (go_at_call 44; (with_reducible refine hraw.mono ?_); rintro e u3 ⟨rfl, hsu, htu⟩; have U3 : Hid _ := Go.Lib.hid (U2.out.trans htu (fun _ _ q => q)); have hlen : Calls Try.prog 53 #[pt w5.heap.size] u3 fun e w' => e = .returned (.int .i64 (lb : Nat)) ∧ u3 = w' := (by rw [LB.out.1]; exact len_ws hsu 4 (by decide)); have hend : Calls Try.prog 46 #[pt w4.heap.size, .int .u32 (lb : Nat)] u3 _ := u32_f3 hsu lb (by have := LB.out.2; omega) (by have := SZ.out.1; omega); clear hsu htu hraw)
            | (go_at_call 53; (with_reducible refine hlen.mono ?_); rintro e ux ⟨rfl, rfl⟩)
            | (go_at_call 46; (with_reducible refine hend.mono ?_); rintro e u4 ⟨rfl, hsu, htu⟩; have U4 : Hid _ := Go.Lib.hid (U3.out.trans htu (fun _ _ q => q)); have WU4 : Hid _ := Go.Lib.hid hsu; have hlen4 : Calls Try.prog 53 #[pt w5.heap.size] u4 fun e w' => e = .returned (.int .i64 (lb : Nat)) ∧ u4 = w' := (by rw [LB.out.1]; exact len_ws hsu 4 (by decide)); clear hsu htu hend hlen)
            | (go_at_call 53; (with_reducible refine hlen4.mono ?_); rintro e ux ⟨rfl, rfl⟩))
          go_roundg (gk - 1)
          case measure => have := G.out; have := HL.out; omega
          case rel =>
            refine ⟨j + 1, by have := G.out; have := HL.out; omega, by simp [wrap64] <;> omega, ?_, by rw [ST.out]; show (tt.B ++ r.bits.data.toList).length ≤ 4194304; rw [← LB.out.1]; exact HLN.out, HT.out u4 U4.out⟩
            rw [ST.out]
            show Wrs u4 _ 5 _ (five HB (tt.R ++ rowB r tt.E.length) (tt.E ++ edgeB r) (tt.N ++ num (tt.B ++ r.bits.data.toList).length 4) (tt.B ++ r.bits.data.toList))
            rw [← LB.out.1]
            exact WU4.out.mono fun b q => .inl q
      · have hj : rows.take j = rows := List.take_of_length_le (by have := HL.out; omega)
        have hws := WS.out
        have hbl := BL.out
        rw [hj] at hws hbl
        have HEV : Hid (EV = buildV CG) := WELL.out (by omega)
        have hrows16 : ∀ x ∈ rows, x.par.length ≤ 16 := fun x hx => by
          obtain ⟨i, hi⟩ := List.getElem?_of_mem hx
          exact (GR.out i x hi).1.1
        have hE := tellT_E rows hrows16
        have hR := tellT_R rows
        have hN := tellT_N rows
        have hrl : rows.length ≤ 65536 := by have := NB.out; have := HL.out; omega
        have b0 : Calls Try.prog 48 #[pt w1.heap.size] wr fun e w' => e = .returned (.string ⟨HB.toArray⟩) ∧ wr = w' := bytes_ws hws 0 (by decide)
        have b1 : Calls Try.prog 48 #[pt w2.heap.size] wr fun e w' => e = .returned (.string ⟨(tellT rows).R.toArray⟩) ∧ wr = w' := bytes_ws hws 1 (by decide)
        have b2 : Calls Try.prog 48 #[pt w3.heap.size] wr fun e w' => e = .returned (.string ⟨(tellT rows).E.toArray⟩) ∧ wr = w' := bytes_ws hws 2 (by decide)
        have b3 : Calls Try.prog 48 #[pt w4.heap.size] wr fun e w' => e = .returned (.string ⟨(tellT rows).N.toArray⟩) ∧ wr = w' := bytes_ws hws 3 (by decide)
        have b4 : Calls Try.prog 48 #[pt w5.heap.size] wr fun e w' => e = .returned (.string ⟨(tellT rows).B.toArray⟩) ∧ wr = w' := bytes_ws hws 4 (by decide)
        have hHB : HB.length ≤ 100 := by rw [HH.out]; simp [num_length]
        have hbu : Calls Try.prog 17 #[.slice (some ⟨wr.heap.size, 0, none⟩) 5 5] (wr.alloc (.cells #[.int .u32 1, .string ⟨HB.toArray⟩, .int .u32 2, .string ⟨(tellT rows).R.toArray⟩, .int .u32 3, .string ⟨(tellT rows).E.toArray⟩, .int .u32 4, .string ⟨(tellT rows).N.toArray⟩, .int .u32 5, .string ⟨(tellT rows).B.toArray⟩] 31)) fun e w' => e = .returned (buildV CG) ∧ Turned (fun _ => False) (wr.alloc (.cells #[.int .u32 1, .string ⟨HB.toArray⟩, .int .u32 2, .string ⟨(tellT rows).R.toArray⟩, .int .u32 3, .string ⟨(tellT rows).E.toArray⟩, .int .u32 4, .string ⟨(tellT rows).N.toArray⟩, .int .u32 5, .string ⟨(tellT rows).B.toArray⟩] 31)) w' := by
          rw [CHK.out]
          exact build_any _ _ _ _ (chIs_five wr ⟨HB.toArray⟩ ⟨(tellT rows).R.toArray⟩ ⟨(tellT rows).E.toArray⟩ ⟨(tellT rows).N.toArray⟩ ⟨(tellT rows).B.toArray⟩ ⟨by rw [ba_size]; omega, by rw [ba_size]; omega, by rw [ba_size]; omega, by rw [ba_size]; omega, by rw [ba_size]; omega⟩)
        have hbv : ∃ s e, buildV CG = .tuple #[.string s, .int .i64 e] := by
          unfold buildV
          split
          · exact ⟨_, _, rfl⟩
          · exact ⟨_, _, rfl⟩
        obtain ⟨bs, be, hbv⟩ := hbv
        rw [hbv] at hbu HEV
        clear hj hws hbl hrows16 hE hR hN hrl hHB hbv CHK
        generalize (⟨HB.toArray⟩ : ByteArray) = q0 at *
        generalize (⟨(tellT rows).R.toArray⟩ : ByteArray) = q1 at *
        generalize (⟨(tellT rows).E.toArray⟩ : ByteArray) = q2 at *
        generalize (⟨(tellT rows).N.toArray⟩ : ByteArray) = q3 at *
        generalize (⟨(tellT rows).B.toArray⟩ : ByteArray) = q4 at *
        go_wp2_with (first
          | (go_at_call 48; (with_reducible refine b0.mono ?_); rintro e v1 ⟨rfl, rfl⟩)
          | (go_at_call 48; (with_reducible refine b1.mono ?_); rintro e v1 ⟨rfl, rfl⟩)
          | (go_at_call 48; (with_reducible refine b2.mono ?_); rintro e v1 ⟨rfl, rfl⟩)
          | (go_at_call 48; (with_reducible refine b3.mono ?_); rintro e v1 ⟨rfl, rfl⟩)
          | (go_at_call 48; (with_reducible refine b4.mono ?_); rintro e v1 ⟨rfl, rfl⟩)
          | (go_at_call 17; (with_reducible refine hbu.mono ?_); rintro e v2 ⟨rfl, htv⟩))
        go_ret2
        exact ⟨by rw [HEV.out]; rfl, W1.out.2.comp (W6.out.comp ((T.out.new _).comp htv (T := fun b => ¬ b < w1.heap.size) fun b hb q => q.elim id fun q => q.elim) (T := fun b => ¬ b < w1.heap.size) fun b hb q => q.elim (fun q => q.elim) id) fun b hb q => q.elim id fun q => q (Nat.lt_of_lt_of_le hb W1.out.2.size)⟩
  · rw [grErr_no hg] at hck
    have HEV : Hid (encG g = .tuple #[.string ⟨#[]⟩, .int .i64 1]) := by
      have q : encG g = .tuple #[.string ⟨#[]⟩, .int .i64 1] := by unfold encG; rw [if_neg (by rw [grErr_no hg]; decide)]
      exact q
    generalize encG g = EV at *
    generalize g.base = x0 at *
    generalize g.h = x1 at *
    generalize g.p = x2 at *
    generalize g.m = x3 at *
    generalize g.seed = x4 at *
    clear h h0 hok hg hL HL
    go_enter Try.func24, Try.ntmps24
    go_wp2_with (go_at_call 26; (with_reducible refine hck.mono ?_); rintro e w1 ⟨rfl, ht1⟩)
    go_ret2
    exact ⟨by rw [HEV.out]; rfl, (Turned.alloc _ _ _).trans ht1 fun _ _ q => q⟩
end Go.Proofs.Ytfeljngmidhajaa
