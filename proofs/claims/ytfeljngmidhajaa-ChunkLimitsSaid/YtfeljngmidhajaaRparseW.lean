/- The document's Parse: the walk. -/
import Derived.Test.YtfeljngmidhajaaParseW
import Derived.Test.YtfeljngmidhajaaRraw
import Derived.Test.YtfeljngmidhajaaRbuild
import Derived.Test.YtfeljngmidhajaaSame
namespace Go.Proofs.Ytfeljngmidhajaa
open Go.RowKit Go.Mine

/-- what the document's Parse answers -/
def rparseR (t : ByteArray) : Except Nat (List Ch) :=
  if 4194304 < t.size then .error 5
  else if openR t ⟨#[80, 68, 71, 67, 1]⟩ ≠ 0 then .error (openR t ⟨#[80, 68, 71, 67, 1]⟩)
  else if buildErr (readT (t.extract 5 (t.size - 4))) ≠ 0 ∨ built (readT (t.extract 5 (t.size - 4))) ≠ t then .error 3
  else if ¬ Rising (readT (t.extract 5 (t.size - 4))) then .error 3
  else .ok (readT (t.extract 5 (t.size - 4)))

theorem adj_rising (l : List Ch) (h : ∀ i a b, l[i]? = some a → l[i + 1]? = some b → a.1 < b.1) : Rising l := by
  induction l with
  | nil => exact List.Pairwise.nil
  | cons c l ih =>
    have hr := ih fun i a b ha hb => h (i + 1) a b (by simpa using ha) (by simpa using hb)
    refine List.pairwise_cons.2 ⟨fun d hd => ?_, hr⟩
    cases l with
    | nil => simp at hd
    | cons e l =>
      have h0 := h 0 c e rfl rfl
      rcases List.mem_cons.1 hd with rfl | hd
      · exact h0
      · have := (List.pairwise_cons.1 hr).1 d hd; omega

def V1 (w : World) (p : Nat) (s : ByteArray) (st : Nat × Nat) (c : Nat) (g : Nat) (lv sv i : Value) (wr : World) : Prop :=
  ∃ (k : Nat) (S1 S2 : Nat → Prop), k + g = c ∧ i = .int .i64 k ∧ Sl wr S1 31 2 lv (ccells (bare (tabK s st k).1)) k ∧
    Sl wr S2 3 1 sv (icells (tabK s st k).1) k ∧ RrIs wr p s (tabK s st k).2 ∧ Turned (· = p) w wr ∧ Apart w wr S1 S2

def V2 (w : World) (p : Nat) (s : ByteArray) (st : Nat × Nat) (t : List (Nat × Nat)) (lv sv : Value) (g : Nat) (i : Value) (wr : World) : Prop :=
  ∃ (k : Nat) (S1 S2 : Nat → Prop), k + g = t.length ∧ i = .int .i64 k ∧ Sl wr S1 31 2 lv (ccells ((dat s st (t.take k)).1 ++ bare (t.drop k))) t.length ∧
    Sl wr S2 3 1 sv (icells t) t.length ∧ RrIs wr p s (dat s st (t.take k)).2 ∧ Turned (· = p) w wr ∧ Apart w wr S1 S2

def V3 (w : World) (l : List Ch) (g : Nat) (i : Value) (wr : World) : Prop :=
  ∃ k : Nat, (k + g = l.length ∨ (k = 1 ∧ g = 0 ∧ l.length = 0)) ∧ 1 ≤ k ∧ i = .int .i64 k ∧ (∀ i a b, i + 1 < k → l[i]? = some a → l[i + 1]? = some b → a.1 < b.1) ∧ Turned (fun _ => False) w wr

set_option maxRecDepth 100000 in
set_option maxHeartbeats 8000000 in
theorem rparse_any (t : ByteArray) (w : World) (hs : t.size ≤ 4611686018427387904) : Calls Try.prog 62 #[.string t] w (ParsePost w (rparseR t)) := by
  by_cases h1 : 4194304 < t.size
  · have hd : decide ((4194304 : Int) < (t.size : Int)) = true := by simp; omega
    have hd2 : decide (4194304 < t.size) = true := by simp; omega
    have HR : Hid (rparseR t = .error 5) := by
      have : rparseR t = .error 5 := by unfold rparseR; rw [if_pos h1]
      exact this
    rw [HR.out]
    clear hs h1
    go_enter Try.func62, Try.ntmps62
    go_wp2
    go_ret2
    exact ⟨Turned.refl _ _, rfl⟩
  have hd : decide ((4194304 : Int) < (t.size : Int)) = false := by simp; omega
  have hd2 : decide (4194304 < t.size) = false := by simp; omega
  have hop := opened_any t ⟨#[80, 68, 71, 67, 1]⟩ w hs
  by_cases h2 : openR t ⟨#[80, 68, 71, 67, 1]⟩ = 0
  · have hp : rparseR t = if buildErr (readT (t.extract 5 (t.size - 4))) ≠ 0 ∨ built (readT (t.extract 5 (t.size - 4))) ≠ t then .error 3
        else if ¬ Rising (readT (t.extract 5 (t.size - 4))) then .error 3 else .ok (readT (t.extract 5 (t.size - 4))) := by
      unfold rparseR
      rw [if_neg h1, if_neg (by simp [h2])]
    have h10 : 10 ≤ t.size := by
      unfold openR at h2
      split at h2
      · simp at h2
      · omega
    have hw : wrap64 ((t.size : Int) - 4) = ((t.size - 4 : Nat) : Int) := by simp [wrap64]; omega
    have hsl4 : ∀ W, (Instr.slice 9 (.string t) (some (.int .i64 5)) (some (.int .i64 (wrap64 ((t.size : Int) - 4)))) none).run Try.prog W = .ok (.string (t.extract 5 (t.size - 4))) W := fun W => by
      rw [hw]
      have := run_slice_string (P := Try.prog) W 9 t .i64 .i64 5 ((t.size - 4 : Nat) : Int) Try.underlying9 (by omega) (by omega) (by omega)
      rw [Int.toNat_natCast] at this
      exact this
    have z4 : (t.extract 5 (t.size - 4)).size ≤ 4194304 := by rw [ByteArray.size_extract]; omega
    rw [h2] at hop
    generalize t.extract 5 (t.size - 4) = s at *
    have HS : Hid (s.size ≤ 4194304) := z4
    have HP : Hid (rparseR t = if buildErr (readT s) ≠ 0 ∨ built (readT s) ≠ t then .error 3 else if ¬ Rising (readT s) then .error 3 else .ok (readT s)) := hp
    generalize rparseR t = R at *
    clear h1 h2 hp h10 hw z4
    obtain ⟨c, hc⟩ : ∃ c, c = rdNum s (0, 0) 1 := ⟨_, rfl⟩
    have hc256 : c.1 < 256 := by rw [hc]; exact rdNum_lt s (0, 0) 1
    have hcat : c.2.1 ≤ s.size := by rw [hc]; exact rdNum_at s (0, 0) 1 (Nat.zero_le _)
    have hn1 : ∀ W p, RrIs W p s (0, 0) → Calls Try.prog 87 #[pt p, .int .i64 1] W fun e w' => e = .returned (.tuple #[.int .u64 (c.1 : Nat), .int .i64 (c.2.2 : Nat)]) ∧ RrIs w' p s c.2 ∧ Turned (· = p) W w' := fun W p h => by
      have := rnum_r 1 h (Nat.zero_le _) (by have := HS.out; omega) (by omega)
      rw [← hc] at this
      exact this
    have HC : Hid (c = rdNum s (0, 0) 1 ∧ c.1 < 256 ∧ c.2.1 ≤ s.size) := ⟨hc, hc256, hcat⟩
    obtain ⟨n, st⟩ := c
    simp only at hn1 HC
    have HN1 : Hid (∀ W p, RrIs W p s (0, 0) → Calls Try.prog 87 #[pt p, .int .i64 1] W fun e w' => e = .returned (.tuple #[.int .u64 (n : Nat), .int .i64 (st.2 : Nat)]) ∧ RrIs w' p s st ∧ Turned (· = p) W w') := hn1
    clear hc hc256 hcat hn1 hs
    -- the rounds: none, where the count is too great
    obtain ⟨N, hN⟩ : ∃ N, N = if 16 < n then 0 else n := ⟨_, rfl⟩
    have HN : Hid (N = if 16 < n then 0 else n) := hN
    have HRD : Hid (readT s = (dat s (tabK s st N).2 (tabK s st N).1).1) := by
      have h1 := HC.out.1
      have : readT s = (dat s (tabK s st N).2 (tabK s st N).1).1 := by
        unfold readT
        simp only [← h1]
        rw [hN]
        split
        · rfl
        · rfl
      exact this
    have HN16 : Hid (N ≤ 16) := by
      have : N ≤ 16 := by rw [hN]; split <;> omega
      exact this
    clear hN
    go_enter Try.func62, Try.ntmps62
    have hnw := fun W => rnew_any s W
    go_wp2_with (first
      | (go_at_call 85; (with_reducible refine hop.mono ?_); rintro e w1 ⟨rfl, ht1⟩; have h86 := hnw w1)
      | (go_at_call 86; (with_reducible refine h86.mono ?_); rintro e w2 ⟨rfl, hr2, ht2, hz2⟩; have h87 := HN1.out w2 _ hr2; have Z2 : Hid (Turned (fun _ => False) w w2 ∧ w.heap.size ≤ w1.heap.size ∧ w1.heap.size < w2.heap.size) := ⟨ht1.trans ht2 (fun _ _ q => q), ht1.size, by omega⟩; generalize w1.heap.size = p at *; clear hr2 ht2 hz2 h86)
      | (go_at_call 87; (with_reducible refine h87.mono ?_); rintro e w3 ⟨rfl, hr3, ht3⟩; have Z3 : Hid (Turned (· = p) w2 w3 ∧ RrIs w3 p s st) := ⟨ht3, hr3⟩; clear hr3 ht3 h87))
    have HS1 : Hid (V1 w2 p s st N N (.slice none 0 0) (.slice none 0 0) (.int .i64 0) w3) :=
      ⟨0, fun _ => False, fun _ => False, by omega, rfl, Sl.nil _ _ _ _, Sl.nil _ _ _ _, Z3.out.2, Z3.out.1, ⟨fun _ q => q.elim, fun _ q => q.elim⟩⟩
    have HPW : Hid (p < w2.heap.size) := Z2.out.2.2
    go_loopg [8, 9, 10] N (fun g lv sv i wr => V1 w2 p s st N g lv sv i wr)
    case atStart => exact HS1.out
    case round =>
      obtain ⟨k, S1, S2, hkg, rfl, hsl1, hsl2, hrd, htw, hap⟩ := hrel
      have G : Hid (k + gk = N) := hkg
      have L1 : Hid (Sl wr S1 31 2 u8 (ccells (bare (tabK s st k).1)) k) := hsl1
      have L2 : Hid (Sl wr S2 3 1 u9 (icells (tabK s st k).1) k) := hsl2
      have RD : Hid (RrIs wr p s (tabK s st k).2) := hrd
      have TW : Hid (Turned (· = p) w2 wr) := htw
      have AP : Hid (Apart w2 wr S1 S2) := hap
      obtain ⟨a1, cap1, rfl, -, -⟩ := hsl1.value
      obtain ⟨a2, cap2, rfl, -, -⟩ := hsl2.value
      clear hkg hsl1 hsl2 hrd htw hap HS1 hop hnw
      by_cases hlt : k < N
      · have hn16 : ¬ 16 < n := fun q => by have := HN.out; rw [if_pos q] at this; omega
        have hNn : N = n := by have := HN.out; rw [if_neg hn16] at this; exact this
        have hda : decide ((k : Int) < (n : Int)) = true := by simp; omega
        have hda2 : decide (k < n) = true := by simp; omega
        have hdb : decide ((n : Int) ≤ 16) = true := by simp; omega
        have hdb2 : decide (n ≤ 16) = true := by simp; omega
        have hwn : wrap64 (n : Int) = (n : Int) := by simp [wrap64]; omega
        have hat := tabK_at s st k HC.out.2.2
        have hA : Calls Try.prog 87 #[pt p, .int .i64 4] wr _ := rnum_r 4 RD.out hat (by have := HS.out; omega) (by omega)
        have hB : ∀ w4, RrIs w4 p s (rdNum s (tabK s st k).2 4).2 → Calls Try.prog 87 #[pt p, .int .i64 4] w4 _ := fun w4 hr4 => rnum_r 4 hr4 (rdNum_at s _ 4 hat) (by have := HS.out; omega) (by omega)
        have TS : Hid ((tabK s st (k + 1)).1 = (tabK s st k).1 ++ [((rdNum s (tabK s st k).2 4).1, (rdNum s (rdNum s (tabK s st k).2 4).2 4).1)] ∧ (tabK s st (k + 1)).2 = (rdNum s (rdNum s (tabK s st k).2 4).2 4).2) := ⟨rfl, rfl⟩
        have hq1 := rdNum_lt s (tabK s st k).2 4
        have hq2 := rdNum_lt s (rdNum s (tabK s st k).2 4).2 4
        generalize (rdNum s (rdNum s (tabK s st k).2 4).2 4) = q2 at *
        generalize (rdNum s (tabK s st k).2 4) = q1 at *
        obtain ⟨id, st1⟩ := q1
        obtain ⟨sz, st2⟩ := q2
        simp only at hA hB TS hq1 hq2
        have HB : Hid (∀ w2, RrIs w2 p s st1 → Calls Try.prog 87 #[pt p, .int .i64 4] w2 fun e w' => e = .returned (.tuple #[.int .u64 (sz : Nat), .int .i64 (st2.2 : Nat)]) ∧ RrIs w' p s st2 ∧ Turned (· = p) w2 w') := hB
        have HQ : Hid (id < 4294967296 ∧ sz < 4294967296) := ⟨hq1, hq2⟩
        have hmi : ((id : Nat) : Int) % 4294967296 = (id : Int) := by omega
        have m1 : Hid (k + 1 ≤ maxLen ∧ (k + 1) * 24 ≤ 140737488355328 ∧ (k + 1) * 8 ≤ 140737488355328) := (by have := HN16.out; simp only [maxLen]; omega : k + 1 ≤ maxLen ∧ (k + 1) * 24 ≤ 140737488355328 ∧ (k + 1) * 8 ≤ 140737488355328)
        clear hat hB hq1 hq2 hn16 hNn
        have HW : Hid (wrap64 (sz : Int) = (sz : Int)) := (by have := HQ.out; simp [wrap64]; omega : wrap64 (sz : Int) = (sz : Int))
        go_wp2_with (first
          | (go_at_call 87; (with_reducible refine hA.mono ?_); rintro e w4 ⟨rfl, hr4, ht4⟩; have h87 := HB.out w4 hr4; have Z4 : Hid (Turned (· = p) wr w4) := ht4; clear hr4 ht4 hA)
          | (go_at_call 87; (with_reducible refine h87.mono ?_); rintro e w5 ⟨rfl, hr5, ht5⟩; have Z5 : Hid (Turned (· = p) wr w5 ∧ RrIs w5 p s st2) := ⟨Z4.out.trans ht5 (fun _ _ q => q), hr5⟩; have A1 : Hid (Sl (w5.alloc (.cells #[.int .u32 (id : Nat), .string ⟨#[]⟩] 31)) S1 31 2 (.slice a1 k cap1) (ccells (bare (tabK s st k).1)) k) := (L1.out.turned Z5.out.1 (fun b q z => by have := AP.out.1 b q; have := HPW.out; omega)).turned (Turned.alloc (fun _ => False) w5 _) (fun _ _ q => q); clear hr5 ht5 h87)
          | (at_builtin; first
            | (refine wpList_append rfl _ _ 22 22 rfl A1.out Try.underlying22 info31 rfl (by decide) rfl (.slice (some ⟨w5.heap.size, 0, none⟩) 1 1) rfl (src_ch (id, ⟨#[]⟩) w5) m1.out.1 m1.out.2.1 ?_; intro x6 w6 q1 t1; obtain ⟨a3, cap3, hv3, -, -⟩ := q1.value; subst hv3; have Q1 : Hid (Sl w6 (More S1 (w5.alloc (.cells #[.int .u32 (id : Nat), .string ⟨#[]⟩] 31))) 31 2 (.slice a3 (k + 1) cap3) (ccells (bare (tabK s st k).1) ++ ccells [(id, ⟨#[]⟩)]) (k + 1) ∧ Turned S1 (w5.alloc (.cells #[.int .u32 (id : Nat), .string ⟨#[]⟩] 31)) w6) := ⟨q1, t1⟩; have A2 : Hid (Sl (w6.alloc (.cells #[.int .i64 (wrap64 (sz : Int))] 3)) S2 3 1 (.slice a2 k cap2) (icells (tabK s st k).1) k) := (((L2.out.turned Z5.out.1 (fun b q z => by have := AP.out.2 b q; have := HPW.out; omega)).turned ((Turned.alloc S1 w5 (.cells #[.int .u32 (id : Nat), .string ⟨#[]⟩] 31)).trans t1 (fun _ _ q => q)) (fun b q z => (AP.out.1 b z).2.2 q)).turned (Turned.alloc (fun _ => False) w6 _) (fun _ _ q => q)); clear q1 t1)
            | (refine wpList_append rfl _ _ 57 57 rfl A2.out Try.underlying57 info3 rfl (by decide) rfl (.slice (some ⟨w6.heap.size, 0, none⟩) 1 1) rfl (src_one Try.underlying57 (.int .i64 (wrap64 (sz : Int))) rfl w6) m1.out.1 m1.out.2.2 ?_; intro x7 w7 q3 t3; obtain ⟨a5, cap5, hv5, -, -⟩ := q3.value; subst hv5; have Q3 : Hid (Sl w7 (More S2 (w6.alloc (.cells #[.int .i64 (wrap64 (sz : Int))] 3))) 3 1 (.slice a5 (k + 1) cap5) (icells (tabK s st k).1 ++ [.int .i64 (wrap64 (sz : Int))]) (k + 1) ∧ Turned S2 (w6.alloc (.cells #[.int .i64 (wrap64 (sz : Int))] 3)) w7) := ⟨q3, t3⟩; clear q3 t3)))
        go_roundg (gk - 1)
        case measure => have := G.out; omega
        case rel =>
          have g0 := TW.out.size
          have g1 := Z5.out.1.size
          have g2 := Q1.out.2.size
          have g3 := Q3.out.2.size
          have g4 : (w5.alloc (.cells #[.int .u32 (id : Nat), .string ⟨#[]⟩] 31)).heap.size = w5.heap.size + 1 := by simp
          have g5 : (w6.alloc (.cells #[.int .i64 (wrap64 (sz : Int))] 3)).heap.size = w6.heap.size + 1 := by simp
          have hap1 := AP.out.1
          have hap2 := AP.out.2
          have hp := HPW.out
          have k3 : Turned S2 w6 w7 := (Turned.alloc S2 w6 _).trans Q3.out.2 fun _ _ q => q
          have k1 : Turned S1 w5 w6 := (Turned.alloc S1 w5 _).trans Q1.out.2 fun _ _ q => q
          refine ⟨k + 1, fun b => More S1 (w5.alloc (.cells #[.int .u32 (id : Nat), .string ⟨#[]⟩] 31)) b ∧ b < w6.heap.size, fun b => More S2 (w6.alloc (.cells #[.int .i64 (wrap64 (sz : Int))] 3)) b ∧ b < w7.heap.size, by have := G.out; omega, ?_, ?_, ?_, ?_, ?_, ?_⟩
          · have := HN16.out; simp [wrap64]; omega
          · have q1 := Q1.out.1.bound
            have e1 : ccells (bare (tabK s st k).1) ++ ccells [(id, ⟨#[]⟩)] = ccells (bare (tabK s st (k + 1)).1) := by
              rw [TS.out.1, ← ccells_append]; simp [bare]
            rw [e1] at q1
            exact q1.turned k3 fun b q z => by
              have := (hap2 b z); have := q.1
              rcases q.1 with y | y
              · exact (hap1 b y).2.2 z
              · omega
          · have q3 := Q3.out.1.bound
            have e1 : icells (tabK s st k).1 ++ [.int .i64 (wrap64 (sz : Int))] = icells (tabK s st (k + 1)).1 := by
              rw [TS.out.1, HW.out]; simp [icells]
            rw [e1] at q3
            exact q3
          · rw [TS.out.2]
            exact ((Z5.out.2.turned k1 fun q => by have := hap1 p q; omega).turned k3 fun q => by have := hap2 p q; omega)
          · exact (((TW.out.trans Z5.out.1 fun _ _ q => q).comp k1 fun i hi q => q.elim (fun q => q) fun q => by have := hap1 i q; omega).comp k3 fun i hi q => q.elim (fun q => q) fun q => by have := hap2 i q; omega)
          · refine ⟨fun b q => ⟨?_, by omega, fun z => ?_⟩, fun b q => ⟨?_, q.2⟩⟩
            · rcases q.1 with y | y
              · exact (hap1 b y).1
              · omega
            · rcases z.1 with y | y
              · rcases q.1 with x | x
                · exact (hap1 b x).2.2 y
                · have := hap2 b y; omega
              · omega
            · rcases q.1 with y | y
              · exact (hap2 b y).1
              · omega
      · have hk : k = N := by have := G.out; omega
        subst hk
        clear hlt G
        have hcase : (decide ((k : Int) < (n : Int)) = false ∧ decide (k < n) = false) ∨ (decide ((k : Int) < (n : Int)) = true ∧ decide (k < n) = true ∧ decide ((n : Int) ≤ 16) = false ∧ decide (n ≤ 16) = false) := by
          have := HN.out
          by_cases q : 16 < n
          · rw [if_pos q] at this
            exact .inr ⟨by simp; omega, by simp; omega, by simp; omega, by simp; omega⟩
          · rw [if_neg q] at this
            exact .inl ⟨by simp; omega, by simp; omega⟩
        have hwn : wrap64 (n : Int) = (n : Int) := by have := HC.out.2.1; simp [wrap64]; omega
        have hat := tabK_at s st k HC.out.2.2
        have hlen := tabK_length s st k
        have HAT : Hid ((tabK s st k).2.1 ≤ s.size ∧ ∀ e ∈ (tabK s st k).1, e.1 < 4294967296 ∧ e.2 < 4294967296) := ⟨hat, tabK_lt s st k⟩
        clear hat
        generalize (tabK s st k).2 = st' at *
        generalize (tabK s st k).1 = tt at *
        have LN : Hid (tt.length = k) := hlen
        clear hlen
        have HS2 : Hid (V2 w2 p s st' tt (.slice a1 k cap1) (.slice a2 k cap2) k (.int .i64 0) wr) :=
          ⟨0, S1, S2, by rw [LN.out]; omega, rfl, by rw [LN.out]; simpa [dat] using L1.out, by rw [LN.out]; exact L2.out, RD.out, TW.out, AP.out⟩
        clear L1 L2 RD TW AP
        obtain ⟨wo, rfl⟩ : ∃ x : World, x = wr := ⟨wr, rfl⟩
        rcases hcase with ⟨hda, hda2⟩ | ⟨hda, hda2, hdb, hdb2⟩
        all_goals
          go_wp2
          go_loopg [15] k (fun g i wr => V2 w2 p s st' tt (.slice a1 k cap1) (.slice a2 k cap2) g i wr)
          case atStart => exact HS2.out
          case round =>
            obtain ⟨i, S3, S4, hig, rfl, hsl1, hsl2, hrd, htw, hap⟩ := hrel
            rw [LN.out] at hsl1 hsl2 hig
            have G : Hid (i + gk = k) := hig
            have L1 : Hid (Sl wr S3 31 2 (.slice a1 k cap1) (ccells ((dat s st' (tt.take i)).1 ++ bare (tt.drop i))) k) := hsl1
            have L2 : Hid (Sl wr S4 3 1 (.slice a2 k cap2) (icells tt) k) := hsl2
            have RD : Hid (RrIs wr p s (dat s st' (tt.take i)).2) := hrd
            have TW : Hid (Turned (· = p) w2 wr) := htw
            have AP : Hid (Apart w2 wr S3 S4) := hap
            clear hig hsl1 hsl2 hrd htw hap HS2 hda hda2 hwn
            have hat := dat_at s st' (tt.take i) HAT.out.1
            by_cases hlt : i < k
            · obtain ⟨e, he⟩ : ∃ e, tt[i]? = some e := ⟨_, List.getElem?_eq_getElem (by rw [LN.out]; exact hlt)⟩
              obtain ⟨g2, off2, cp2, hv2, -, -, -, hcl2, -, hg2⟩ := L2.out.opens (by omega)
              injection hv2 with e1 e2 e3
              subst e1
              subst e3
              have c0 : wr.cell? ⟨g2, off2 + i, none⟩ = some (.int .i64 (e.2 : Nat)) := by
                rw [hcl2 i (by omega)]; simp [icells, he]
              have hraw := rraw_r e.2 RD.out hat (by have := HS.out; omega) (by have := (HAT.out.2 e (List.mem_of_getElem? he)).2; omega)
              unfold RrawPost at hraw
              have HE : Hid (tt[i]? = some e) := he
              have hst : ∀ w4, Turned (· = p) wr w4 → ∃ g1 off1, a1 = some ⟨g1, off1, none⟩ ∧ S3 g1 ∧ g1 < w4.heap.size ∧ (∃ u, w4.cell? ⟨g1, off1 + i * 2 + 1, none⟩ = some u) ∧ w4.frozen? ⟨g1, off1 + i * 2 + 1, none⟩ = false := fun w4 t2 => by
                obtain ⟨g1, off1, cp1, hv1, hS, -, -, hcl1, hfr, hg1⟩ := (L1.out.turned t2 fun b q z => by have := AP.out.1 b q; have := HPW.out; omega).opens (by omega)
                injection hv1 with e1 e2 e3
                refine ⟨g1, off1, e1, hS, hg1, ?_, hfr _⟩
                have hlen2 := L1.out.1
                refine ⟨_, (hcl1 (i * 2 + 1) (by omega)).trans (List.getElem?_eq_getElem (by rw [hlen2]; omega))⟩
              have HST : Hid (∀ w4, Turned (· = p) wr w4 → ∃ g1 off1, a1 = some ⟨g1, off1, none⟩ ∧ S3 g1 ∧ g1 < w4.heap.size ∧ (∃ u, w4.cell? ⟨g1, off1 + i * 2 + 1, none⟩ = some u) ∧ w4.frozen? ⟨g1, off1 + i * 2 + 1, none⟩ = false) := hst
              have DS : Hid (dat s st' (tt.take (i + 1)) = ((dat s st' (tt.take i)).1 ++ [(e.1, (rdRaw s (dat s st' (tt.take i)).2 e.2).1)], (rdRaw s (dat s st' (tt.take i)).2 e.2).2)) := dat_take s st' tt i e he
              clear hcl2 hst he hat
              generalize rdRaw s (dat s st' (tt.take i)).2 e.2 = q at *
              obtain ⟨bd, stn⟩ := q
              simp only at hraw DS
              go_wp2_with (go_at_call 88; (with_reducible refine hraw.mono ?_); rintro e w4 ⟨rfl, hr2, ht2⟩; obtain ⟨g1, off1, rfl, hS1, hgl1, ⟨u, hu⟩, hfz⟩ := HST.out w4 ht2; have Z4 : Hid (Turned (· = p) wr w4 ∧ RrIs w4 p s stn ∧ S3 g1) := ⟨ht2, hr2, hS1⟩; clear ht2 hr2 hS1)
              go_roundg (gk - 1)
              case measure => have := G.out; omega
              case rel =>
                have hap1 := AP.out.1
                have hap2 := AP.out.2
                have hp := HPW.out
                have hgk := G.out
                have hsl3 := L1.out.turned Z4.out.1 fun b q z => by have := hap1 b q; omega
                obtain ⟨q1, q2, q3⟩ := hsl3.set (i * 2 + 1) (by omega) (.string bd)
                rw [← Nat.add_assoc] at q1 q2 q3
                have z1 := Z4.out.1.size
                refine ⟨i + 1, S3, S4, by rw [LN.out]; omega, by have := HN16.out; simp [wrap64]; omega, ?_, ?_, ?_, ?_, ?_⟩
                · rw [DS.out, LN.out]
                  have hdr : tt.drop i = e :: tt.drop (i + 1) := by
                    have hi := (List.getElem?_eq_some_iff.1 HE.out)
                    rw [List.drop_eq_getElem_cons hi.1, hi.2]
                  have hln : (dat s st' (tt.take i)).1.length = i := by rw [dat_length, List.length_take, LN.out]; omega
                  have h5 : bare (tt.drop i) = (e.1, ⟨#[]⟩) :: bare (tt.drop (i + 1)) := by rw [hdr]; rfl
                  rw [h5] at q1
                  have h6 := ccells_set (dat s st' (tt.take i)).1 e.1 ⟨#[]⟩ bd (bare (tt.drop (i + 1)))
                  rw [hln] at h6
                  rw [h6] at q1
                  exact q1
                · rw [LN.out]
                  exact ((L2.out.turned Z4.out.1 fun b q z => by have := hap2 b q; omega).turned q2 fun b q z => (hap1 b z).2.2 q)
                · rw [DS.out]
                  exact Z4.out.2.1.turned q2 fun q => by have := hap1 p q; omega
                · exact (TW.out.trans Z4.out.1 fun _ _ q => q).comp q2 fun i hi q => q.elim (fun q => q) fun q => by have := hap1 i q; omega
                · exact ⟨fun b q => ⟨(hap1 b q).1, by have := hap1 b q; omega, (hap1 b q).2.2⟩, fun b q => ⟨(hap2 b q).1, by have := hap2 b q; omega⟩⟩
            · have hi : i = k := by have := G.out; omega
              subst hi
              have htk : tt.take i = tt := List.take_of_length_le (by rw [LN.out]; exact Nat.le_refl _)
              have hdr : tt.drop i = [] := List.drop_of_length_le (by rw [LN.out]; exact Nat.le_refl _)
              have hl1 := L1.out
              rw [htk, hdr] at hl1
              obtain ⟨l, hl⟩ : ∃ l, l = (dat s st' tt).1 := ⟨_, rfl⟩
              have hrd : readT s = l := by rw [hl]; exact HRD.out
              have hli : l.length = i := by rw [hl, dat_length, LN.out]
              have hsm : Small l := by
                intro c hc
                have hids := dat_ids s st' tt
                rw [← hl] at hids
                have h1 : c.1 ∈ tt.map (·.1) := by rw [← hids]; exact List.mem_map.2 ⟨c, hc, rfl⟩
                obtain ⟨e, he, hec⟩ := List.mem_map.1 h1
                have h2 := dat_small s st' tt c (by rw [← hl]; exact hc)
                have := HS.out
                exact ⟨by rw [← hec]; exact (HAT.out.2 e he).1, by omega⟩
              have hl2 : Sl wr S3 31 2 (.slice a1 i cap1) (ccells l) l.length := by
                rw [hli, hl]
                simpa [bare] using hl1
              obtain ⟨a1', cap1', hv, hch⟩ := sl_chIs hl2 hsm
              injection hv with e1 e2 e3
              subst e1
              subst e3
              have hbd := rbuild_any a1 cap1 l wr hch
              have hpp := HP.out
              rw [hrd] at hpp
              have HL : Hid (l.length = i ∧ Sl wr S3 31 2 (.slice a1 i cap1) (ccells l) l.length ∧ ChIs wr a1 cap1 l) := ⟨hli, hl2, hch⟩
              have TW2 : Hid (Turned (fun _ => False) w wr) := Z2.out.1.comp TW.out fun i hi q => q.elim (fun q => q) fun q => by have := Z2.out.2; omega
              have hS3 : Hid (∀ b, S3 b → w.heap.size ≤ b) := fun b q => by have := (AP.out.1 b q).1; have := Z2.out.1.size; omega
              rw [hli] at hbd
              clear hl hrd hsm hl1 htk hdr hl2 hch hat hlt hli e2
              by_cases hbe : buildErr l = 0
              · have hbv : buildV l = .tuple #[.string (built l), .int .i64 0] := by unfold buildV; rw [hbe]; rfl
                rw [hbv] at hbd
                by_cases hbt : built l = t
                · rw [if_neg (by simp [hbe, hbt])] at hpp
                  rw [hbt] at hbd
                  have HPP : Hid (R = if ¬ Rising l then .error 3 else .ok l) := hpp
                  clear hbv hbt hpp hbe HP
                  go_wp2_with (go_at_call 18; (with_reducible refine hbd.mono ?_); rintro e w5 ⟨rfl, ht5⟩)
                  have Z5 : Hid (Turned (fun _ => False) wr w5) := ht5
                  have HS3 : Hid (V3 w5 l (i - 1) (.int .i64 1) w5) := ⟨1, by have := HL.out.1; omega, by omega, rfl, fun j a b hj => by omega, Turned.refl _ _⟩
                  clear hbd ht5
                  obtain ⟨wo2, rfl⟩ : ∃ x : World, x = wr := ⟨wr, rfl⟩
                  go_loopg [17] (i - 1) (fun g j wr => V3 w5 l g j wr)
                  case atStart => exact HS3.out
                  case round =>
                    obtain ⟨k, hkg, hk1, rfl, hadj, ht6⟩ := hrel
                    obtain ⟨m, rfl⟩ : ∃ m, k = m + 1 := ⟨k - 1, by omega⟩
                    have G3 : Hid (m + 1 + gk = l.length ∨ (m + 1 = 1 ∧ gk = 0 ∧ l.length = 0)) := hkg
                    have ADJ : Hid (∀ i a b, i + 1 < m + 1 → l[i]? = some a → l[i + 1]? = some b → a.1 < b.1) := hadj
                    have Z6 : Hid (Turned (fun _ => False) w5 wr) := ht6
                    clear hkg hadj ht6 hk1 HS3
                    by_cases hlt : m + 1 < i
                    · obtain ⟨ca, hca⟩ : ∃ c, l[m]? = some c := ⟨_, List.getElem?_eq_getElem (by have := HL.out.1; omega)⟩
                      obtain ⟨cb, hcb⟩ : ∃ c, l[m + 1]? = some c := ⟨_, List.getElem?_eq_getElem (by have := HL.out.1; omega)⟩
                      have hch := (HL.out.2.2.turned Z5.out).turned Z6.out
                      obtain ⟨b1, off1, rfl, hbw, c0, -⟩ := chIs_any hch m ca hca
                      obtain ⟨b2, off2, hbb, -, d0, -⟩ := chIs_any hch (m + 1) cb hcb
                      injection hbb with hbb
                      injection hbb with e1 e2
                      subst e1
                      subst e2
                      have HAB : Hid (l[m]? = some ca ∧ l[m + 1]? = some cb) := ⟨hca, hcb⟩
                      have hwm : wrap64 (m : Int) = (m : Int) := by have := HN16.out; simp [wrap64]; omega
                      have hlt3 : m < i := by omega
                      clear hch hca hcb
                      by_cases hab : ca.1 < cb.1
                      · have hd7 : decide ((cb.1 : Int) ≤ (ca.1 : Int)) = false := by simp; omega
                        have hd8 : decide (cb.1 ≤ ca.1) = false := by simp; omega
                        have HLT : Hid (ca.1 < cb.1) := hab
                        clear hab
                        go_wp2
                        go_region
                        all_goals go_wp2
                        all_goals
                          go_roundg (gk - 1)
                          case measure => have := G3.out; have := HL.out.1; omega
                          case rel =>
                            have h3 := G3.out
                            have h4 := HL.out.1
                            have h5 := HN16.out
                            refine ⟨m + 1 + 1, by omega, by omega, by simp [wrap64]; omega, fun j a b hj ha hb => ?_, Z6.out.draw⟩
                            rcases Nat.lt_or_eq_of_le (Nat.le_of_lt_succ hj) with q | q
                            · exact ADJ.out j a b q ha hb
                            · have : j = m := by omega
                              subst this
                              have ⟨x1, x2⟩ := HAB.out
                              rw [x1] at ha; rw [x2] at hb
                              obtain rfl := Option.some.inj ha
                              obtain rfl := Option.some.inj hb
                              exact HLT.out
                      · have hd7 : decide ((cb.1 : Int) ≤ (ca.1 : Int)) = true := by simp; omega
                        have hd8 : decide (cb.1 ≤ ca.1) = true := by simp; omega
                        have hnr : ¬ Rising l := fun q => by
                          have ⟨x1, x2⟩ := HAB.out
                          obtain ⟨y1, z1⟩ := List.getElem?_eq_some_iff.1 x1
                          obtain ⟨y2, z2⟩ := List.getElem?_eq_some_iff.1 x2
                          have := List.pairwise_iff_getElem.1 q m (m + 1) y1 y2 (by omega)
                          rw [z1, z2] at this
                          exact hab this
                        have hpp := HPP.out
                        rw [if_pos hnr] at hpp
                        have HRR : Hid (R = .error 3) := hpp
                        clear hnr hpp hab
                        go_wp2
                        go_region
                        all_goals go_wp2
                        all_goals go_ret2
                        all_goals exact ⟨((TW2.out.trans Z5.out fun _ _ q => q).trans Z6.out fun _ _ q => q).draw, by rw [HRR.out]; rfl⟩
                    · have hr : Rising l := adj_rising l fun j a b ha hb => by
                        have := (List.getElem?_eq_some_iff.1 hb).1
                        exact ADJ.out j a b (by have := HL.out.1; omega) ha hb
                      have hpp := HPP.out
                      rw [if_neg (by simpa using hr)] at hpp
                      have HRR : Hid (R = .ok l) := hpp
                      clear hr hpp
                      go_wp2
                      go_ret2
                      refine ⟨(TW2.out.trans Z5.out fun _ _ q => q).trans Z6.out fun _ _ q => q, ?_⟩
                      rw [HRR.out]
                      refine ⟨_, rfl, ?_⟩
                      have := (((HL.out.2.1).turned Z5.out fun _ _ q => q).turned Z6.out fun _ _ q => q).widen hS3.out
                      rw [HL.out.1] at this ⊢
                      exact this
                · rw [if_pos (by right; exact hbt)] at hpp
                  have hne := ba_ne2 _ _ hbt
                  have HRR : Hid (R = .error 3) := hpp
                  generalize built l = bl at *
                  clear hbv hbt hpp hbe HP
                  go_wp2_with (go_at_call 18; (with_reducible refine hbd.mono ?_); rintro e w5 ⟨rfl, ht5⟩)
                  go_ret2
                  exact ⟨TW2.out.trans ht5 fun _ _ q => q, by rw [HRR.out]; rfl⟩
              · have hbv : buildV l = .tuple #[.string ⟨#[]⟩, .int .i64 (buildErr l : Nat)] := by unfold buildV; rw [if_neg hbe]
                rw [hbv] at hbd
                rw [if_pos (by left; exact hbe)] at hpp
                have HRR : Hid (R = .error 3) := hpp
                generalize buildErr l = be at *
                have hd5 : ((be : Int) == 0) = false := by simp; omega
                clear hbv hpp HP
                go_wp2_with (go_at_call 18; (with_reducible refine hbd.mono ?_); rintro e w5 ⟨rfl, ht5⟩)
                go_ret2
                exact ⟨TW2.out.trans ht5 fun _ _ q => q, by rw [HRR.out]; rfl⟩
  · have HR : Hid (rparseR t = .error (openR t ⟨#[80, 68, 71, 67, 1]⟩)) := by
      have : rparseR t = .error (openR t ⟨#[80, 68, 71, 67, 1]⟩) := by unfold rparseR; rw [if_neg h1, if_pos h2]
      exact this
    rw [HR.out]
    generalize openR t ⟨#[80, 68, 71, 67, 1]⟩ = k at *
    have hd5 : ((k : Int) == 0) = false := by simp; omega
    clear hs h1 h2
    go_enter Try.func62, Try.ntmps62
    go_wp2_with (go_at_call 85; (with_reducible refine hop.mono ?_); rintro e w1 ⟨rfl, ht1⟩)
    go_ret2
    exact ⟨ht1, rfl⟩
end Go.Proofs.Ytfeljngmidhajaa
