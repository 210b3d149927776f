/- The document's Decode of a chain: the walk. -/
import Derived.Test.YtfeljngmidhajaaDoorLnD
import Derived.Test.YtfeljngmidhajaaDoorLnF
import Derived.Test.YtfeljngmidhajaaDoorRrd
import Derived.Test.YtfeljngmidhajaaDoorOpen
namespace Go.Proofs.YtfeljngmidhajaaDoor
open Go.RowKit Go.Mine

/-- the sixth byte -/
def cnt (t : ByteArray) : Nat := (t.data.toList[5]?.getD 0).toNat
/-- what the document reads ahead of its checks -/
def readL (t : ByteArray) : List Ln := (lnK (t.extract 6 (t.size - 4)) (0, 0) (min (cnt t) 9)).1
/-- what the document's Decode answers -/
def rdecR (t : ByteArray) : Except Nat (List Ln) :=
  if openR t ⟨#[80, 68, 71, 77, 1]⟩ ≠ 0 then .error (openR t ⟨#[80, 68, 71, 77, 1]⟩)
  else if lnErr (readL t) ≠ 0 ∨ toldLn (readL t) ≠ t then .error 3
  else .ok (readL t)

def G1 (w : World) (p : Nat) (s : ByteArray) (c : Nat) (g : Nat) (lv i : Value) (wr : World) : Prop :=
  ∃ (k : Nat) (S1 : Nat → Prop), k + g = c ∧ i = .int .i64 k ∧ Sl wr S1 43 3 lv (lcells (lnK s (0, 0) k).1) k ∧ RrIs wr p s (lnK s (0, 0) k).2 ∧ Turned (· = p) w wr ∧ (∀ b, S1 b → w.heap.size ≤ b ∧ b < wr.heap.size)

theorem wn {n : Nat} (h : n < 256) : wrap64 (n : Int) = (n : Int) := by simp [wrap64]; omega

set_option maxRecDepth 100000 in
set_option maxHeartbeats 4000000 in
theorem rdecode_any (t : ByteArray) (w : World) (hs : t.size ≤ 4611686018427387904) : Calls Tryd.prog 18 #[.string t] w (DecPost w (rdecR t)) := by
  have hop := opened_any t ⟨#[80, 68, 71, 77, 1]⟩ w hs
  by_cases h2 : openR t ⟨#[80, 68, 71, 77, 1]⟩ = 0
  · have hp : rdecR t = if lnErr (readL t) ≠ 0 ∨ toldLn (readL t) ≠ t then .error 3 else .ok (readL t) := by
      unfold rdecR
      rw [if_neg (by simp [h2])]
    have h10 : 10 ≤ t.size := by
      unfold openR at h2
      split at h2
      · simp at h2
      · omega
    have hw : wrap64 ((t.size : Int) - 4) = ((t.size - 4 : Nat) : Int) := by simp [wrap64]; omega
    have hsl4 : ∀ W, (Instr.slice 9 (.string t) (some (.int .i64 6)) (some (.int .i64 (wrap64 ((t.size : Int) - 4)))) none).run Tryd.prog W = .ok (.string (t.extract 6 (t.size - 4))) W := fun W => by
      rw [hw]
      have := run_slice_string (P := Tryd.prog) W 9 t .i64 .i64 6 ((t.size - 4 : Nat) : Int) Tryd.underlying9 (by omega) (by omega) (by omega)
      rw [Int.toNat_natCast] at this
      exact this
    have z4 : (t.extract 6 (t.size - 4)).size ≤ 4611686018427387904 := by rw [ByteArray.size_extract]; omega
    obtain ⟨y, hy⟩ : ∃ y, t.data.toList[5]? = some y := ⟨_, List.getElem?_eq_getElem (by simp; omega)⟩
    have hcnt : cnt t = y.toNat := by unfold cnt; rw [hy]; rfl
    have hidx : ∀ W, (Instr.index 9 (.string t) (.int .i64 5)).run Tryd.prog W = .ok (.int .u8 (y.toNat : Nat)) W := fun W => by
      rw [run_index_string W 9 t .i64 _ Tryd.underlying9, dif_pos (by omega)]
      have hy3 : t[5]'(by omega) = y := by
        rw [Array.getElem?_toList] at hy
        exact (Array.getElem?_eq_some_iff.1 hy).2
      simp only [show (5 : Int).toNat = 5 from rfl, hy3]
    have hy256 := y.toNat_lt
    rw [h2] at hop
    have hrl : readL t = (lnK (t.extract 6 (t.size - 4)) (0, 0) (min (cnt t) 9)).1 := rfl
    rw [hcnt] at hrl
    generalize t.extract 6 (t.size - 4) = s at *
    have HS : Hid (s.size ≤ 4611686018427387904) := z4
    have HP : Hid (rdecR t = if lnErr (readL t) ≠ 0 ∨ toldLn (readL t) ≠ t then .error 3 else .ok (readL t)) := hp
    generalize rdecR t = R at *
    generalize y.toNat = n at *
    obtain ⟨N, hN⟩ : ∃ N, N = min n 9 := ⟨_, rfl⟩
    rw [← hN] at hrl
    have HRL : Hid (readL t = (lnK s (0, 0) N).1 ∧ N = min n 9 ∧ n < 256) := ⟨hrl, hN, hy256⟩
    clear h2 hp h10 hw z4 hs hcnt hy hrl hN hy256
    go_enter Tryd.func18, Tryd.ntmps18
    have hnw := fun W => rnew_any s W
    go_wp2_with (first
      | (go_at_call 39; (with_reducible refine hop.mono ?_); rintro e w1 ⟨rfl, ht1⟩; have h86 := hnw w1)
      | (go_at_call 40; (with_reducible refine h86.mono ?_); rintro e w2 ⟨rfl, hr2, ht2, hz2⟩; have Z2 : Hid (Turned (fun _ => False) w w2 ∧ w.heap.size ≤ w1.heap.size ∧ w1.heap.size < w2.heap.size) := ⟨ht1.trans ht2 (fun _ _ q => q), ht1.size, by omega⟩; have R2 : Hid (RrIs w2 w1.heap.size s (0, 0)) := hr2; generalize w1.heap.size = p at *; clear hr2 ht2 hz2 h86))
    have HS1 : Hid (G1 w2 p s N N (.slice none 0 0) (.int .i64 0) w2) := ⟨0, fun _ => False, by omega, rfl, Sl.nil _ _ _ _, R2.out, Turned.refl _ _, fun _ q => q.elim⟩
    go_loopg [6, 7] N (fun g lv i wr => G1 w2 p s N g lv i wr)
    case atStart => exact HS1.out
    case round =>
      obtain ⟨k, S1, hkg, rfl, hsl1, hrd, htw, hap⟩ := hrel
      have G : Hid (k + gk = N) := hkg
      have L1 : Hid (Sl wr S1 43 3 u6 (lcells (lnK s (0, 0) k).1) k) := hsl1
      have RD : Hid (RrIs wr p s (lnK s (0, 0) k).2) := hrd
      have TW : Hid (Turned (· = p) w2 wr) := htw
      have AP : Hid (∀ b, S1 b → w2.heap.size ≤ b ∧ b < wr.heap.size) := hap
      obtain ⟨a1, cap1, rfl, -, -⟩ := hsl1.value
      clear hkg hsl1 hrd htw hap HS1 hop hnw
      have hat := lnK_at s (0, 0) k (Nat.zero_le _)
      by_cases hlt : k < N
      · have hk9 : k < n ∧ k ≤ 8 := by have := HRL.out.2.1; omega
        have hda : decide ((k : Int) < wrap64 (n : Int)) = true := by rw [wn HRL.out.2.2]; simp; omega
        have hda2 : ¬ (wrap64 (n : Int) ≤ (k : Int)) := by rw [wn HRL.out.2.2]; omega
        have hdb : decide ((k : Int) ≤ 8) = true := by simp; omega
        have hdb2 : decide (k ≤ 8) = true := by simp; omega
        have hA : Calls Tryd.prog 41 #[pt p, .int .i64 4] wr _ := rnum_r 4 RD.out hat HS.out (by omega)
        have hB : ∀ w6, RrIs w6 p s (rdNum s (lnK s (0, 0) k).2 4).2 → Calls Tryd.prog 41 #[pt p, .int .i64 4] w6 _ := fun w6 hr => rnum_r 4 hr (rdNum_at s _ 4 hat) HS.out (by omega)
        have hD : ∀ w6, RrIs w6 p s (rdNum s (rdNum s (lnK s (0, 0) k).2 4).2 4).2 → Calls Tryd.prog 41 #[pt p, .int .i64 4] w6 _ := fun w6 hr => rnum_r 4 hr (rdNum_at s _ 4 (rdNum_at s _ 4 hat)) HS.out (by omega)
        have TS : Hid ((lnK s (0, 0) (k + 1)).1 = (lnK s (0, 0) k).1 ++ [(((rdNum s (lnK s (0, 0) k).2 4).1 : Int), ((rdNum s (rdNum s (lnK s (0, 0) k).2 4).2 4).1 : Int), (rdNum s (rdNum s (rdNum s (lnK s (0, 0) k).2 4).2 4).2 4).1)] ∧ (lnK s (0, 0) (k + 1)).2 = (rdNum s (rdNum s (rdNum s (lnK s (0, 0) k).2 4).2 4).2 4).2) := ⟨rfl, rfl⟩
        have hq1 := rdNum_lt s (lnK s (0, 0) k).2 4
        have hq2 := rdNum_lt s (rdNum s (lnK s (0, 0) k).2 4).2 4
        have hq3 := rdNum_lt s (rdNum s (rdNum s (lnK s (0, 0) k).2 4).2 4).2 4
        generalize (rdNum s (rdNum s (rdNum s (lnK s (0, 0) k).2 4).2 4).2 4) = q3 at *
        generalize (rdNum s (rdNum s (lnK s (0, 0) k).2 4).2 4) = q2 at *
        generalize (rdNum s (lnK s (0, 0) k).2 4) = q1 at *
        obtain ⟨x1, st1⟩ := q1
        obtain ⟨x2, st2⟩ := q2
        obtain ⟨x3, st3⟩ := q3
        simp only at hA hB hD TS hq1 hq2 hq3
        have HB : Hid (∀ w6, RrIs w6 p s st1 → Calls Tryd.prog 41 #[pt p, .int .i64 4] w6 fun e w' => e = .returned (.tuple #[.int .u64 (x2 : Nat), .int .i64 (st2.2 : Nat)]) ∧ RrIs w' p s st2 ∧ Turned (· = p) w6 w') := hB
        have HD : Hid (∀ w6, RrIs w6 p s st2 → Calls Tryd.prog 41 #[pt p, .int .i64 4] w6 fun e w' => e = .returned (.tuple #[.int .u64 (x3 : Nat), .int .i64 (st3.2 : Nat)]) ∧ RrIs w' p s st3 ∧ Turned (· = p) w6 w') := hD
        have hwx1 : wrap64 (x1 : Int) = (x1 : Int) := by simp [wrap64]; omega
        have hwx2 : wrap64 (x2 : Int) = (x2 : Int) := by simp [wrap64]; omega
        have hwx3 : (x3 : Int) % 4294967296 = (x3 : Int) := by omega
        have m1 : Hid (k + 1 ≤ maxLen ∧ (k + 1) * 24 ≤ 140737488355328) := (by simp only [maxLen]; omega : k + 1 ≤ maxLen ∧ (k + 1) * 24 ≤ 140737488355328)
        clear hat hB hD hq1 hq2 hq3 hk9
        go_wp2_with (first
          | (go_at_call 41; (with_reducible refine hA.mono ?_); rintro e w6 ⟨rfl, hr6, ht6⟩; have hB6 := HB.out w6 hr6; have Z6 : Hid (Turned (· = p) wr w6) := ht6; clear hr6 ht6 hA)
          | (go_at_call 41; (with_reducible refine hB6.mono ?_); rintro e w7 ⟨rfl, hr7, ht7⟩; have hD7 := HD.out w7 hr7; have Z7 : Hid (Turned (· = p) wr w7) := Z6.out.trans ht7 (fun _ _ q => q); clear hr7 ht7 hB6)
          | (go_at_call 41; (with_reducible refine hD7.mono ?_); rintro e w8 ⟨rfl, hr8, ht8⟩; have Z8 : Hid (Turned (· = p) wr w8 ∧ RrIs w8 p s st3) := ⟨Z7.out.trans ht8 (fun _ _ q => q), hr8⟩; have A1 : Hid (Sl (w8.alloc (.cells #[.int .i64 (x1 : Int), .int .i64 (x2 : Int), .int .u32 (x3 : Nat)] 43)) S1 43 3 (.slice a1 k cap1) (lcells (lnK s (0, 0) k).1) k) := (L1.out.turned Z8.out.1 (fun b q z => by have := AP.out b q; have := Z2.out; omega)).turned (Turned.alloc (fun _ => False) w8 _) (fun _ _ q => q); clear hr8 ht8 hD7)
          | (at_builtin; refine wpList_append rfl _ _ 25 25 rfl A1.out Tryd.underlying25 info43 rfl (by decide) rfl (.slice (some ⟨w8.heap.size, 0, none⟩) 1 1) rfl (src_ln ((x1 : Int), (x2 : Int), x3) w8) m1.out.1 m1.out.2 ?_; intro x4 w9 q1 t1; obtain ⟨a3, cap3, hv3, -, -⟩ := q1.value; subst hv3; have Q1 : Hid (Sl w9 (More S1 (w8.alloc (.cells #[.int .i64 (x1 : Int), .int .i64 (x2 : Int), .int .u32 (x3 : Nat)] 43))) 43 3 (.slice a3 (k + 1) cap3) (lcells (lnK s (0, 0) k).1 ++ lcells [((x1 : Int), (x2 : Int), x3)]) (k + 1) ∧ Turned S1 (w8.alloc (.cells #[.int .i64 (x1 : Int), .int .i64 (x2 : Int), .int .u32 (x3 : Nat)] 43)) w9) := ⟨q1, t1⟩; clear q1 t1))
        go_roundg (gk - 1)
        case measure => have := G.out; omega
        case rel =>
          have g0 := TW.out.size
          have g1 := Z8.out.1.size
          have g2 := Q1.out.2.size
          have g4 : (w8.alloc (.cells #[.int .i64 (x1 : Int), .int .i64 (x2 : Int), .int .u32 (x3 : Nat)] 43)).heap.size = w8.heap.size + 1 := by simp
          have hap := AP.out
          have hp := Z2.out.2.2
          have hgk := G.out
          have hnn := HRL.out.2.1
          have k1 : Turned S1 w8 w9 := (Turned.alloc S1 w8 _).trans Q1.out.2 fun _ _ q => q
          refine ⟨k + 1, fun b => More S1 (w8.alloc (.cells #[.int .i64 (x1 : Int), .int .i64 (x2 : Int), .int .u32 (x3 : Nat)] 43)) b ∧ b < w9.heap.size, by omega, by first | (simp; done) | (simp [wrap64]; omega), ?_, ?_, ?_, ?_⟩
          · have q1 := Q1.out.1.bound
            rw [TS.out.1, lcells_append]
            exact q1
          · rw [TS.out.2]
            exact Z8.out.2.turned k1 fun q => by have := hap p q; omega
          · exact (TW.out.trans Z8.out.1 fun _ _ q => q).comp k1 fun i hi q => q.elim (fun q => q) fun q => by have := hap i q; omega
          · intro b q
            refine ⟨?_, q.2⟩
            rcases q.1 with y | y
            · exact (hap b y).1
            · omega
      · have hk : k = N := by have := G.out; omega
        subst hk
        have hlen := lnK_length s (0, 0) k
        have hlt2 := lnK_lt s (0, 0) k
        have hcase : (decide ((k : Int) < wrap64 (n : Int)) = false ∧ wrap64 (n : Int) ≤ (k : Int)) ∨ (decide ((k : Int) < wrap64 (n : Int)) = true ∧ ¬ (wrap64 (n : Int) ≤ (k : Int)) ∧ decide ((k : Int) ≤ 8) = false ∧ decide (k ≤ 8) = false) := by
          have := HRL.out.2.1
          by_cases q : k < n
          · exact .inr ⟨by rw [wn HRL.out.2.2]; simp; omega, by rw [wn HRL.out.2.2]; omega, by simp; omega, by simp; omega⟩
          · exact .inl ⟨by rw [wn HRL.out.2.2]; simp; omega, by rw [wn HRL.out.2.2]; omega⟩
        have hpp := HP.out
        rw [HRL.out.1] at hpp
        generalize (lnK s (0, 0) k).1 = l at *
        have TF : Hid (Turned (fun _ => False) w wr) := Z2.out.1.comp TW.out fun i hi q => q.elim (fun q => q) fun q => by have := Z2.out.2; omega
        have HLL : Hid (l.length = k ∧ LnOk l) := ⟨hlen, hlt2⟩
        have hen : Calls Tryd.prog 42 #[.slice a1 k cap1] wr fun e w' => e = .returned (encV l) ∧ Turned (fun _ => False) wr w' := by
          have hsl := L1.out
          rw [← hlen] at hsl
          obtain ⟨a', cap', hv, hli⟩ := sl_lnIs hsl hlt2
          injection hv with e1 _ e3
          subst e1; subst e3
          have := rencode_any a1 cap1 l wr hli
          rw [hlen] at this
          exact this
        clear hlen hlt2 hat hlt HP
        by_cases hle : lnErr l = 0
        · have hv : encV l = .tuple #[.string (toldLn l), .int .i64 0] := by unfold encV; rw [if_pos hle]
          rw [hv] at hen
          by_cases hto : toldLn l = t
          · rw [if_neg (by simp [hle, hto])] at hpp
            rw [hto] at hen
            have HRR : Hid (R = .ok l) := hpp
            clear hpp hle hto hv
            rcases hcase with ⟨hda, hda2⟩ | ⟨hda, hda2, hdb, hdb2⟩
            all_goals
              go_wp2_with (go_at_call 42; (with_reducible refine hen.mono ?_); rintro e w7 ⟨rfl, ht7⟩)
              go_ret2
              refine ⟨TF.out.trans ht7 fun _ _ q => q, ?_⟩
              rw [HRR.out]
              refine ⟨_, rfl, ?_⟩
              rw [HLL.out.1]
              exact (L1.out.turned ht7 fun _ _ q => q).widen fun b q => by have := AP.out b q; have := Z2.out.1.size; omega
          · rw [if_pos (by right; exact hto)] at hpp
            have HRR : Hid (R = .error 3) := hpp
            have hne := ba_ne2 _ _ hto
            generalize toldLn l = bl at *
            clear hpp hle hto hv
            rcases hcase with ⟨hda, hda2⟩ | ⟨hda, hda2, hdb, hdb2⟩
            all_goals
              go_wp2_with (go_at_call 42; (with_reducible refine hen.mono ?_); rintro e w7 ⟨rfl, ht7⟩)
              go_ret2
              exact ⟨TF.out.trans ht7 fun _ _ q => q, by rw [HRR.out]; rfl⟩
        · have hv : encV l = .tuple #[.string ⟨#[]⟩, .int .i64 (lnErr l : Nat)] := by unfold encV; rw [if_neg hle]
          rw [hv] at hen
          rw [if_pos (by left; exact hle)] at hpp
          have HRR : Hid (R = .error 3) := hpp
          generalize lnErr l = le at *
          have hle0 : ((le : Int) == 0) = false := by simp; omega
          clear hpp hv
          rcases hcase with ⟨hda, hda2⟩ | ⟨hda, hda2, hdb, hdb2⟩
          all_goals
            go_wp2_with (go_at_call 42; (with_reducible refine hen.mono ?_); rintro e w7 ⟨rfl, ht7⟩)
            go_ret2
            exact ⟨TF.out.trans ht7 fun _ _ q => q, by rw [HRR.out]; rfl⟩
  · have HR : Hid (rdecR t = .error (openR t ⟨#[80, 68, 71, 77, 1]⟩)) := by
      have : rdecR t = .error (openR t ⟨#[80, 68, 71, 77, 1]⟩) := by unfold rdecR; rw [if_pos h2]
      exact this
    rw [HR.out]
    generalize openR t ⟨#[80, 68, 71, 77, 1]⟩ = k at *
    have hd5 : ((k : Int) == 0) = false := by simp; omega
    clear hs h2
    go_enter Tryd.func18, Tryd.ntmps18
    go_wp2_with (go_at_call 39; (with_reducible refine hop.mono ?_); rintro e w1 ⟨rfl, ht1⟩)
    go_ret2
    exact ⟨ht1, rfl⟩
end Go.Proofs.YtfeljngmidhajaaDoor
