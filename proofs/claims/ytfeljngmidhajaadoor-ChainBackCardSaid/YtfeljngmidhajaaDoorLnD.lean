/- Decode of a chain: the walk. -/
import Derived.Test.YtfeljngmidhajaaDoorLnS
import Derived.Test.YtfeljngmidhajaaDoorRdN
namespace Go.Proofs.YtfeljngmidhajaaDoor
open Go.RowKit Go.Mine

set_option maxRecDepth 100000 in
set_option maxHeartbeats 4000000 in
theorem decode_any (t : ByteArray) (w : World) (hs : t.size ≤ 4611686018427387904) : Calls Tryd.prog 10 #[.string t] w (DecPost w (decR t)) := by
  by_cases h2 : t.size < 10
  · have hd3 : decide ((t.size : Int) < 10) = true := by simp; omega
    have hd4 : decide (t.size < 10) = true := by simp; omega
    have HR : Hid (decR t = .error 2) := by
      have : decR t = .error 2 := by unfold decR; rw [if_pos h2]
      exact this
    rw [HR.out]
    clear hs h2
    go_enter Tryd.func10, Tryd.ntmps10
    go_wp2
    go_ret2
    exact ⟨Turned.refl _ _, rfl⟩
  have hd3 : decide ((t.size : Int) < 10) = false := by simp; omega
  have hd4 : decide (t.size < 10) = false := by simp; omega
  have hw : wrap64 ((t.size : Int) - 4) = ((t.size - 4 : Nat) : Int) := by simp [wrap64]; omega
  have hpx := prefix_any t ⟨#[80, 68, 71, 77, 1]⟩ w (by show 5 ≤ t.size; omega) hs
  change Calls Tryd.prog 27 _ _ (fun e w' => e = .returned (.bool (decide (t.extract 0 5 = ⟨#[80, 68, 71, 77, 1]⟩))) ∧ w = w') at hpx
  by_cases h3 : t.extract 0 5 = ⟨#[80, 68, 71, 77, 1]⟩
  · rw [decide_eq_true h3] at hpx
    have hsl2 : ∀ W, (Instr.slice 9 (.string t) (some (.int .i64 (wrap64 ((t.size : Int) - 4)))) none none).run Tryd.prog W = .ok (.string (t.extract (t.size - 4) t.size)) W := fun W => by
      rw [hw]
      have := run_slice_string_l (P := Tryd.prog) W 9 t Tryd.underlying9 .i64 ((t.size - 4 : Nat) : Int) (by omega) (by omega)
      rw [Int.toNat_natCast] at this
      exact this
    have hsl3 : ∀ W, (Instr.slice 9 (.string t) none (some (.int .i64 (wrap64 ((t.size : Int) - 4)))) none).run Tryd.prog W = .ok (.string (t.extract 0 (t.size - 4))) W := fun W => by
      rw [hw]
      have := run_slice_string_h (P := Tryd.prog) W 9 t Tryd.underlying9 .i64 ((t.size - 4 : Nat) : Int) (by omega) (by omega)
      rw [Int.toNat_natCast] at this
      exact this
    have hsl4 : ∀ W, (Instr.slice 9 (.string t) (some (.int .i64 5)) (some (.int .i64 (wrap64 ((t.size : Int) - 4)))) none).run Tryd.prog W = .ok (.string (t.extract 5 (t.size - 4))) W := fun W => by
      rw [hw]
      have := run_slice_string (P := Tryd.prog) W 9 t .i64 .i64 5 ((t.size - 4 : Nat) : Int) Tryd.underlying9 (by omega) (by omega) (by omega)
      rw [Int.toNat_natCast] at this
      exact this
    have z2 : (t.extract (t.size - 4) t.size).size ≤ 4611686018427387904 := by rw [ByteArray.size_extract]; omega
    have z3 : (t.extract 0 (t.size - 4)).size ≤ 4611686018427387904 := by rw [ByteArray.size_extract]; omega
    have z4 : (t.extract 5 (t.size - 4)).size ≤ 4611686018427387904 := by rw [ByteArray.size_extract]; omega
    have hp : decR t = if (rdNum (t.extract (t.size - 4) t.size) (0, 0) 4).1 ≠ Crc.sum (nums (t.extract 0 (t.size - 4))) then .error 4 else finL (progL (t.extract 5 (t.size - 4))) := by
      unfold decR
      rw [if_neg h2, if_neg (by simp [h3])]
    have hsum := fun W => sum_one (W : World).heap.size 0 1 (t.extract 0 (t.size - 4)) (W.alloc (.cells #[.string (t.extract 0 (t.size - 4))] 9)) (cell_of (heap_alloc_last W _) 0 _ rfl) (by simp) z3
    have hu := fun (W : World) (p : Nat) (h : RdIs W p (t.extract (t.size - 4) t.size) (0, 0)) => u32_r h (Nat.zero_le _) z2
    unfold NumPost at hu
    have hq : (rdNum (t.extract (t.size - 4) t.size) (0, 0) 4).1 < 4294967296 := rdNum_lt _ _ 4
    have hcs := crcsum_lt (t.extract 0 (t.size - 4))
    generalize rdNum (t.extract (t.size - 4) t.size) (0, 0) 4 = q at *
    generalize Crc.sum (nums (t.extract 0 (t.size - 4))) = cs at *
    generalize t.extract (t.size - 4) t.size = s2 at *
    generalize t.extract 0 (t.size - 4) = s3 at *
    generalize t.extract 5 (t.size - 4) = s at *
    have HS : Hid (s.size ≤ 4611686018427387904) := z4
    have HP : Hid (decR t = if q.1 ≠ cs then .error 4 else finL (progL s)) := hp
    generalize decR t = R at *
    have HU : Hid (∀ (W : World) (p : Nat), RdIs W p s2 (0, 0) → Calls Tryd.prog 29 #[pt p] W fun e w' => e = .returned (.tuple #[.int .u32 (q.1 : Nat), .int .i64 (q.2.2 : Nat)]) ∧ RdIs w' p s2 q.2 ∧ Turned (· = p) W w') := hu
    have hn := newReader_any s2 w
    obtain ⟨c, hc⟩ : ∃ c, c = rdNum s (0, 0) 1 := ⟨_, rfl⟩
    have hc256 : c.1 < 256 := by rw [hc]; exact rdNum_lt s (0, 0) 1
    have hcat : c.2.1 ≤ s.size := by rw [hc]; exact rdNum_at s (0, 0) 1 (Nat.zero_le _)
    have h8 : ∀ W p, RdIs W p s (0, 0) → Calls Tryd.prog 30 #[pt p] W fun e w' => e = .returned (.tuple #[.int .u8 (c.1 : Nat), .int .i64 (c.2.2 : Nat)]) ∧ RdIs w' p s c.2 ∧ Turned (· = p) W w' := fun W p h => by
      have := u8_r h (Nat.zero_le _) z4
      unfold NumPost at this
      rw [← hc] at this
      exact this
    have HC : Hid (c = rdNum s (0, 0) 1 ∧ c.1 < 256 ∧ c.2.1 ≤ s.size) := ⟨hc, hc256, hcat⟩
    obtain ⟨n, st⟩ := c
    simp only at h8 HC
    have H8 : Hid (∀ W p, RdIs W p s (0, 0) → Calls Tryd.prog 30 #[pt p] W fun e w' => e = .returned (.tuple #[.int .u8 (n : Nat), .int .i64 (st.2 : Nat)]) ∧ RdIs w' p s st ∧ Turned (· = p) W w') := h8
    clear hu hp hs h2 h3 hw z2 z3 z4 hc hc256 hcat h8
    by_cases hqc : q.1 = cs
    · have hd5 : ((q.1 : Int) == (cs : Int)) = true := by simp; omega
      have hpr := HP.out
      rw [if_neg (by simp [hqc])] at hpr
      have HPR : Hid (R = finL (progL s)) := hpr
      clear hpr hq hcs hqc HP
      go_enter Tryd.func10, Tryd.ntmps10
      go_wp2_with (first
        | (go_at_call 27; (with_reducible refine hpx.mono ?_); rintro e w0 ⟨rfl, rfl⟩)
        | (go_at_call 28; (with_reducible refine hn.mono ?_); rintro e w1 ⟨rfl, hr1, ht1, hz1⟩; have h60 := HU.out w1 _ hr1; have Z1 : Hid (Turned (fun _ => False) w w1 ∧ w1.heap.size = w.heap.size + 1) := ⟨ht1, hz1⟩; clear hr1 ht1 hz1 hn)
        | (go_at_call 29; (with_reducible refine h60.mono ?_); rintro e w2 ⟨rfl, hr2, ht2⟩; have Z2 : Hid (Turned (fun _ => False) w w2) := Z1.out.1.comp ht2 (fun i hi q => q.elim (fun q => q) (fun q => by omega)); have h47 := hsum w2; clear hr2 ht2 h60)
        | (go_at_call 25; (with_reducible refine h47.mono ?_); rintro e w3 ⟨rfl, ht3⟩; have Z3 : Hid (Turned (fun _ => False) w w3) := Z2.out.trans ((Turned.alloc (fun _ => False) w2 _).trans ht3 fun _ _ q => q) (fun _ _ q => q); have hn3 := newReader_any s w3; clear ht3 h47)
        | (go_at_call 28; (with_reducible refine hn3.mono ?_); rintro e w4 ⟨rfl, hr4, ht4, hz4⟩; have h30 := H8.out w4 _ hr4; have Z4 : Hid (Turned (fun _ => False) w w4 ∧ w.heap.size ≤ w3.heap.size ∧ w3.heap.size < w4.heap.size) := ⟨Z3.out.trans ht4 (fun _ _ q => q), Z3.out.size, by omega⟩; generalize w3.heap.size = p at *; clear hr4 ht4 hz4 hn3)
        | (go_at_call 30; (with_reducible refine h30.mono ?_); rintro e w5 ⟨rfl, hr5, ht5⟩; have Z5 : Hid (RdIs w5 p s st ∧ Turned (· = p) w4 w5) := ⟨hr5, ht5⟩; clear hr5 ht5 h30))
      have HS1 : Hid (D1 w4 p s st n n (.slice none 0 0) (.int .u8 0) w5) := ⟨0, fun _ => False, by omega, rfl, Sl.nil _ _ _ _, Z5.out.1, Z5.out.2, fun _ q => q.elim⟩
      go_loopg [10, 53] n (fun g lv i wr => D1 w4 p s st n g lv i wr)
      case atStart => exact HS1.out
      case round =>
        obtain ⟨k, S1, hkg, rfl, hsl1, hrd, htw, hap⟩ := hrel
        have G : Hid (k + gk = n) := hkg
        have L1 : Hid (Sl wr S1 43 3 u10 (lcells (lnK s st k).1) k) := hsl1
        have RD : Hid (RdIs wr p s (lnK s st k).2) := hrd
        have TW : Hid (Turned (· = p) w4 wr) := htw
        have AP : Hid (∀ b, S1 b → w4.heap.size ≤ b ∧ b < wr.heap.size) := hap
        obtain ⟨a1, cap1, rfl, -, -⟩ := hsl1.value
        clear hkg hsl1 hrd htw hap HS1 hd3 hd4 hd5
        have hat := lnK_at s st k HC.out.2.2
        by_cases hlt : k < n
        · have hA := u32_r RD.out hat HS.out
          have hB := fun w6 (hr : RdIs w6 p s (rdNum s (lnK s st k).2 4).2) => u32_r hr (rdNum_at s _ 4 hat) HS.out
          have hD := fun w6 (hr : RdIs w6 p s (rdNum s (rdNum s (lnK s st k).2 4).2 4).2) => u32_r hr (rdNum_at s _ 4 (rdNum_at s _ 4 hat)) HS.out
          unfold NumPost at hA hB hD
          have TS : Hid ((lnK s st (k + 1)).1 = (lnK s st k).1 ++ [(((rdNum s (lnK s st k).2 4).1 : Int), ((rdNum s (rdNum s (lnK s st k).2 4).2 4).1 : Int), (rdNum s (rdNum s (rdNum s (lnK s st k).2 4).2 4).2 4).1)] ∧ (lnK s st (k + 1)).2 = (rdNum s (rdNum s (rdNum s (lnK s st k).2 4).2 4).2 4).2) := ⟨rfl, rfl⟩
          have hq1 := rdNum_lt s (lnK s st k).2 4
          have hq2 := rdNum_lt s (rdNum s (lnK s st k).2 4).2 4
          generalize (rdNum s (rdNum s (rdNum s (lnK s st k).2 4).2 4).2 4) = q3 at *
          generalize (rdNum s (rdNum s (lnK s st k).2 4).2 4) = q2 at *
          generalize (rdNum s (lnK s st k).2 4) = q1 at *
          obtain ⟨x1, st1⟩ := q1
          obtain ⟨x2, st2⟩ := q2
          obtain ⟨x3, st3⟩ := q3
          simp only at hA hB hD TS hq1 hq2
          have HB : Hid (∀ w6, RdIs w6 p s st1 → Calls Tryd.prog 29 #[pt p] w6 fun e w' => e = .returned (.tuple #[.int .u32 (x2 : Nat), .int .i64 (st2.2 : Nat)]) ∧ RdIs w' p s st2 ∧ Turned (· = p) w6 w') := hB
          have HD : Hid (∀ w6, RdIs w6 p s st2 → Calls Tryd.prog 29 #[pt p] w6 fun e w' => e = .returned (.tuple #[.int .u32 (x3 : Nat), .int .i64 (st3.2 : Nat)]) ∧ RdIs w' p s st3 ∧ Turned (· = p) w6 w') := hD
          have HW : Hid (wrap64 (x1 : Int) = (x1 : Int) ∧ wrap64 (x2 : Int) = (x2 : Int)) := ⟨by simp [wrap64]; omega, by simp [wrap64]; omega⟩
          have m1 : Hid (k + 1 ≤ maxLen ∧ (k + 1) * 24 ≤ 140737488355328) := (by have := HC.out.2.1; simp only [maxLen]; omega : k + 1 ≤ maxLen ∧ (k + 1) * 24 ≤ 140737488355328)
          clear hat hB hD hq1 hq2
          go_wp2_with (first
            | (go_at_call 29; (with_reducible refine hA.mono ?_); rintro e w6 ⟨rfl, hr6, ht6⟩; have hB6 := HB.out w6 hr6; have Z6 : Hid (Turned (· = p) wr w6) := ht6; clear hr6 ht6 hA)
            | (go_at_call 29; (with_reducible refine hB6.mono ?_); rintro e w7 ⟨rfl, hr7, ht7⟩; have hD7 := HD.out w7 hr7; have Z7 : Hid (Turned (· = p) wr w7) := Z6.out.trans ht7 (fun _ _ q => q); clear hr7 ht7 hB6)
            | (go_at_call 29; (with_reducible refine hD7.mono ?_); rintro e w8 ⟨rfl, hr8, ht8⟩; have Z8 : Hid (Turned (· = p) wr w8 ∧ RdIs w8 p s st3) := ⟨Z7.out.trans ht8 (fun _ _ q => q), hr8⟩; have A1 : Hid (Sl (w8.alloc (.cells #[.int .i64 (wrap64 (x1 : Int)), .int .i64 (wrap64 (x2 : Int)), .int .u32 (x3 : Nat)] 43)) S1 43 3 (.slice a1 k cap1) (lcells (lnK s st k).1) k) := (L1.out.turned Z8.out.1 (fun b q z => by have := AP.out b q; have := Z4.out; omega)).turned (Turned.alloc (fun _ => False) w8 _) (fun _ _ q => q); clear hr8 ht8 hD7)
            | (at_builtin; refine wpList_append rfl _ _ 25 25 rfl A1.out Tryd.underlying25 info43 rfl (by decide) rfl (.slice (some ⟨w8.heap.size, 0, none⟩) 1 1) rfl (src_ln (wrap64 (x1 : Int), wrap64 (x2 : Int), x3) w8) m1.out.1 m1.out.2 ?_; intro x4 w9 q1 t1; obtain ⟨a3, cap3, hv3, -, -⟩ := q1.value; subst hv3; have Q1 : Hid (Sl w9 (More S1 (w8.alloc (.cells #[.int .i64 (wrap64 (x1 : Int)), .int .i64 (wrap64 (x2 : Int)), .int .u32 (x3 : Nat)] 43))) 43 3 (.slice a3 (k + 1) cap3) (lcells (lnK s st k).1 ++ lcells [(wrap64 (x1 : Int), wrap64 (x2 : Int), x3)]) (k + 1) ∧ Turned S1 (w8.alloc (.cells #[.int .i64 (wrap64 (x1 : Int)), .int .i64 (wrap64 (x2 : Int)), .int .u32 (x3 : Nat)] 43)) w9) := ⟨q1, t1⟩; clear q1 t1))
          go_roundg (gk - 1)
          case measure => have := G.out; omega
          case rel =>
            have g0 := TW.out.size
            have g1 := Z8.out.1.size
            have g2 := Q1.out.2.size
            have g4 : (w8.alloc (.cells #[.int .i64 (wrap64 (x1 : Int)), .int .i64 (wrap64 (x2 : Int)), .int .u32 (x3 : Nat)] 43)).heap.size = w8.heap.size + 1 := by simp
            have hap := AP.out
            have hp := Z4.out.2.2
            have hcn := HC.out.2.1
            have hgk := G.out
            have k1 : Turned S1 w8 w9 := (Turned.alloc S1 w8 _).trans Q1.out.2 fun _ _ q => q
            refine ⟨k + 1, fun b => More S1 (w8.alloc (.cells #[.int .i64 (wrap64 (x1 : Int)), .int .i64 (wrap64 (x2 : Int)), .int .u32 (x3 : Nat)] 43)) b ∧ b < w9.heap.size, by omega, ?_, ?_, ?_, ?_, ?_⟩
            · simp [IntKind.wrap, IntKind.bits, IntKind.signed]; omega
            · have q1 := Q1.out.1.bound
              rw [HW.out.1, HW.out.2] at q1
              rw [TS.out.1, lcells_append, HW.out.1, HW.out.2]
              exact q1
            · rw [TS.out.2]
              exact Z8.out.2.turned k1 fun q => by have := hap p q; omega
            · exact (TW.out.trans Z8.out.1 fun _ _ q => q).comp k1 fun i hi q => q.elim (fun q => q) fun q => by have := hap i q; omega
            · intro b q
              refine ⟨?_, q.2⟩
              rcases q.1 with y | y
              · exact (hap b y).1
              · omega
        · have hk : k = n := by have := G.out; omega
          subst hk
          have hend := end_r RD.out hat HS.out
          have hlen := lnK_length s st k
          have hlt2 := lnK_lt s st k
          have hpr : progL s = if (lnK s st k).2.2 ≠ 0 ∨ (lnK s st k).2.1 < s.size then none else if lnErr (lnK s st k).1 ≠ 0 then none else some (lnK s st k).1 := by
            have h1 := HC.out.1
            unfold progL
            rw [← h1]
          have HPL : Hid (progL s = if (lnK s st k).2.2 ≠ 0 ∨ (lnK s st k).2.1 < s.size then none else if lnErr (lnK s st k).1 ≠ 0 then none else some (lnK s st k).1) := hpr
          clear hpr hat
          generalize (lnK s st k).2 = ste at *
          generalize (lnK s st k).1 = l at *
          have hfin : Turned (fun _ => False) w wr := Z4.out.1.comp TW.out fun i hi q => q.elim (fun q => q) fun q => by have := Z4.out.2; omega
          have TF : Hid (Turned (fun _ => False) w wr) := hfin
          have HLL : Hid (l.length = k ∧ LnOk l) := ⟨hlen, hlt2⟩
          clear hfin hlen hlt2
          by_cases hz : ste.2 = 0 ∧ s.size ≤ ste.1
          · have HZ : Hid (ste.2 = 0 ∧ s.size ≤ ste.1) := hz
            have hck : ∀ W, Turned (· = p) wr W → Calls Tryd.prog 12 #[.slice a1 k cap1] W fun e w' => e = .returned (.int .i64 (lnErr l : Nat)) ∧ Turned (fun _ => False) W w' := fun W htW => by
              have hsl := L1.out.turned htW fun b q z => by have := AP.out b q; have := Z4.out.2; omega
              rw [← HLL.out.1] at hsl
              obtain ⟨a', cap', hv, hli⟩ := sl_lnIs hsl HLL.out.2
              injection hv with e1 _ e3
              subst e1; subst e3
              have := check_any a1 cap1 l W hli
              rw [HLL.out.1] at this
              exact this
            have HCK : Hid (∀ W, Turned (· = p) wr W → Calls Tryd.prog 12 #[.slice a1 k cap1] W fun e w' => e = .returned (.int .i64 (lnErr l : Nat)) ∧ Turned (fun _ => False) W w') := hck
            have hpl : progL s = if lnErr l ≠ 0 then none else some l := by
              have := HPL.out
              rw [if_neg (by have := hz.1; have := hz.2; omega)] at this
              exact this
            clear hz hck
            by_cases hle : lnErr l = 0
            · rw [if_neg (by simp [hle])] at hpl
              have HRR : Hid (R = .ok l) := by have := HPR.out; rw [hpl] at this; exact this
              rw [hle] at HCK
              clear hpl hle
              go_wp2_with (first
                | (go_at_call 31; (with_reducible refine hend.mono ?_); rintro e w6 ⟨kk, rfl, hk, ht6⟩; obtain rfl : kk = 0 := hk.2 HZ.out; have T6 : Hid (Turned (· = p) wr w6) := ht6; have h12 := HCK.out w6 ht6; clear ht6 hk)
                | (go_at_call 12; (with_reducible refine h12.mono ?_); rintro e w7 ⟨rfl, ht7⟩))
              go_ret2
              refine ⟨(TF.out.comp T6.out (T := fun _ => False) fun i hi q => q.elim (fun q => q) fun q => by have := Z4.out.2; omega).trans ht7 fun _ _ q => q, ?_⟩
              rw [HRR.out]
              refine ⟨_, rfl, ?_⟩
              rw [HLL.out.1]
              exact ((L1.out.turned T6.out fun b q z => by have := AP.out b q; have := Z4.out.2; omega).turned ht7 fun _ _ q => q).widen fun b q => by have := AP.out b q; have := Z4.out.2; omega
            · rw [if_pos hle] at hpl
              have HRR : Hid (R = .error 3) := by have := HPR.out; rw [hpl] at this; exact this
              generalize lnErr l = le at *
              have hle0 : ((le : Int) == 0) = false := by simp; omega
              clear hpl hle
              go_wp2_with (first
                | (go_at_call 31; (with_reducible refine hend.mono ?_); rintro e w6 ⟨kk, rfl, hk, ht6⟩; obtain rfl : kk = 0 := hk.2 HZ.out; have T6 : Hid (Turned (· = p) wr w6) := ht6; have h12 := HCK.out w6 ht6; clear ht6 hk)
                | (go_at_call 12; (with_reducible refine h12.mono ?_); rintro e w7 ⟨rfl, ht7⟩))
              go_ret2
              refine ⟨(TF.out.comp T6.out (T := fun _ => False) fun i hi q => q.elim (fun q => q) fun q => by have := Z4.out.2; omega).trans ht7 fun _ _ q => q, ?_⟩
              rw [HRR.out]
              rfl
          · have HZ : Hid (¬ (ste.2 = 0 ∧ s.size ≤ ste.1)) := hz
            have hpl : progL s = none := by
              have := HPL.out
              rw [if_pos (by omega)] at this
              exact this
            have HRR : Hid (R = .error 3) := by have := HPR.out; rw [hpl] at this; exact this
            clear hz hpl
            go_wp2_with (go_at_call 31; (with_reducible refine hend.mono ?_); rintro e w6 ⟨kk, rfl, hk, ht6⟩; have hk0 : kk ≠ 0 := (fun q => HZ.out (hk.1 q)); have hd : ((kk : Int) == 0) = false := (by simp; omega); clear hk)
            go_ret2
            refine ⟨TF.out.comp ht6 (T := fun _ => False) fun i hi q => q.elim (fun q => q) fun q => by have := Z4.out.2; omega, ?_⟩
            rw [HRR.out]
            rfl
    · have hd5 : ((q.1 : Int) == (cs : Int)) = false := by simp; omega
      have hpr := HP.out
      rw [if_pos hqc] at hpr
      have HRR : Hid (R = .error 4) := hpr
      clear hpr hq hcs hqc HP
      go_enter Tryd.func10, Tryd.ntmps10
      go_wp2_with (first
        | (go_at_call 27; (with_reducible refine hpx.mono ?_); rintro e w0 ⟨rfl, rfl⟩)
        | (go_at_call 28; (with_reducible refine hn.mono ?_); rintro e w1 ⟨rfl, hr1, ht1, hz1⟩; have h60 := HU.out w1 _ hr1; have Z1 : Hid (Turned (fun _ => False) w w1 ∧ w1.heap.size = w.heap.size + 1) := ⟨ht1, hz1⟩; clear hr1 ht1 hz1 hn)
        | (go_at_call 29; (with_reducible refine h60.mono ?_); rintro e w2 ⟨rfl, hr2, ht2⟩; have Z2 : Hid (Turned (fun _ => False) w w2) := Z1.out.1.comp ht2 (fun i hi q => q.elim (fun q => q) (fun q => by omega)); have h47 := hsum w2; clear hr2 ht2 h60)
        | (go_at_call 25; (with_reducible refine h47.mono ?_); rintro e w3 ⟨rfl, ht3⟩; have Z3 : Hid (Turned (fun _ => False) w w3) := Z2.out.trans ((Turned.alloc (fun _ => False) w2 _).trans ht3 fun _ _ q => q) (fun _ _ q => q); clear ht3 h47))
      go_ret2
      exact ⟨Z3.out, by rw [HRR.out]; rfl⟩
  · rw [decide_eq_false h3] at hpx
    have HR : Hid (decR t = .error 3) := by
      have : decR t = .error 3 := by unfold decR; rw [if_neg h2, if_pos h3]
      exact this
    rw [HR.out]
    clear hs h2 hw h3
    go_enter Tryd.func10, Tryd.ntmps10
    go_wp2_with (go_at_call 27; (with_reducible refine hpx.mono ?_); rintro e w0 ⟨rfl, rfl⟩)
    go_ret2
    exact ⟨Turned.refl _ _, rfl⟩
end Go.Proofs.YtfeljngmidhajaaDoor
