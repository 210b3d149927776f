/- The document's reading: a quoted text at the front: the walk of quoted (printed by gen_dq.py). -/
import Derived.Test.YteblabpplaaddaaGreatDoorDn
import Derived.Test.YteblabpplaaddaaGreatDoorRow
import Derived.Deep.LoopGhost
set_option linter.unusedVariables false
set_option linter.unusedSimpArgs false
namespace Go.Proofs.YteblabpplaaddaaGreatDoor
open Go.RowKit Go.Mine Go.Mine.Sc

/-- the document's quoted text, as the program tells it: the text, and how many bytes it has -/
def quoV (t : B) : B × Nat := match rText t with | none => ([], 0) | some (x, r) => (x, t.length - r.length)
theorem quoV_none {t : B} (h : rText t = none) : quoV t = ([], 0) := by unfold quoV; rw [h]
theorem quoV_some {t x r : B} (h : rText t = some (x, r)) : quoV t = (x, t.length - r.length) := by unfold quoV; rw [h]

def QuoPost (w : World) (R : B × Nat) (e : Ending) (w' : World) : Prop := e = .returned (.tuple #[.string (bs R.1), .int .i64 (R.2 : Nat)]) ∧ Turned (fun _ => False) w w'

/-- what the loop of quoted keeps -/
def QuoR (w : World) (s t : B) (g : Nat) (v vi : Value) (wr : World) : Prop :=
  ∃ (acc : B) (i : Nat) (S : Nat → Prop), vi = .int .i64 (i : Nat) ∧ s.length - i = g ∧ 1 ≤ i ∧ i ≤ s.length ∧ acc.length ≤ i ∧ qf [] t = qf acc (s.drop i) ∧ Sl wr S 5 1 v (bcells acc) acc.length ∧ Turned (fun _ => False) w wr ∧ (∀ b, S b → w.heap.size ≤ b)

theorem drop_cons {s : B} {k : Nat} {c : UInt8} (hc : s[k]? = some c) : s.drop k = c :: s.drop (k + 1) := by
  have hlt := (List.getElem?_eq_some_iff.1 hc).1
  rw [List.drop_eq_getElem_cons hlt]
  rw [List.getElem?_eq_getElem hlt] at hc
  injection hc with hc
  rw [hc]
theorem hexI_some {c p : UInt8} (h : hexv c = some p) : hexI c = (p.toNat : Int) ∧ p.toNat ≤ 15 := by
  have e : hexI c = (p.toNat : Int) := by unfold hexI; rw [h]
  refine ⟨e, ?_⟩
  by_cases h1 : 48 ≤ c.toNat ∧ c.toNat ≤ 57
  · have := hexI_low h1.1 h1.2; omega
  · by_cases h2 : 97 ≤ c.toNat ∧ c.toNat ≤ 102
    · have := hexI_high h2.1 h2.2; omega
    · have := hexI_no h1 h2; omega
theorem hexI_none {c : UInt8} (h : hexv c = none) : hexI c = -1 := by unfold hexI; rw [h]
theorem hex_two {p q : UInt8} (hp : p.toNat ≤ 15) (hq : q.toNat ≤ 15) : (16 * p + q).toNat = 16 * p.toNat + q.toNat := by
  rw [UInt8.toNat_add, UInt8.toNat_mul]
  show ((16 * p.toNat) % 256 + q.toNat) % 256 = _
  omega

theorem esc_not {c : UInt8} {r : B} (h : ¬ (c = 34 ∨ c = 92)) (hx : c ≠ 120) : esc (c :: r) = none := by
  have h1 : c ≠ 34 := fun q => h (.inl q)
  have h2 : c ≠ 92 := fun q => h (.inr q)
  simp [esc, h1, h2, hx]
theorem esc_short {c : UInt8} {r : B} (h : ¬ (c = 34 ∨ c = 92)) (hr : r.length ≤ 1) : esc (c :: r) = none := by
  by_cases hx : c = 120
  · subst hx
    rcases r with _ | ⟨a, _ | ⟨b, u⟩⟩
    · simp [esc]
    · simp [esc]
    · simp at hr
  · exact esc_not h hx
theorem hid_two {p q : Prop} (h : p) (k : q) : Hid (p ∧ q) := ⟨h, k⟩
theorem quo_step {w wr w9 : World} {s t acc : B} {i g : Nat} {c : UInt8} {S : Nat → Prop} {v vi : Value} {o : Obj} {k : Nat} (ha : acc.length + 1 ≤ k ∨ acc.length ≤ i) (hk : 1 ≤ k ∧ k ≤ s.length ∧ s.length - k = g ∧ i < k) (hvi : vi = .int .i64 (k : Nat)) (ht : Turned (fun _ => False) w wr) (hap : ∀ b, S b → w.heap.size ≤ b)
    (q1 : Sl w9 (More S (wr.alloc o)) 5 1 v (bcells acc ++ [.int .u8 (c.toNat : Nat)]) (acc.length + 1)) (t1 : Turned S (wr.alloc o) w9) (hq : qf [] t = qf (acc ++ [c]) (s.drop k)) : QuoR w s t g v vi w9 := by
  have tn : Turned S wr w9 := (Turned.alloc S wr o).trans t1 fun _ _ q => q
  have sz : (wr.alloc o).heap.size = wr.heap.size + 1 := by simp
  refine ⟨acc ++ [c], k, More S (wr.alloc o), hvi, hk.2.2.1, hk.1, hk.2.1, ?_, hq, ?_, ?_, ?_⟩
  · simp; omega
  · rw [bcells_app, List.length_append]
    exact q1
  · exact ht.comp tn fun b hb q => q.elim id fun q => by have := hap b q; omega
  · have s1 := ht.size
    rintro b (q | q)
    · exact hap b q
    · omega

set_option maxRecDepth 100000 in
theorem quoted_nil (w : World) : Calls Tryz.prog 92 #[.string (bs [])] w (QuoPost w (quoV [])) := by
  have hd : decide (((bs []).size : Int) = 0) = true := rfl
  have HV : Hid (quoV [] = ([], 0)) := quoV_none rfl
  have hsz : (bs []).size = 0 := rfl
  generalize bs [] = x at *
  go_enter Tryz.func92, Tryz.ntmps92
  go_wp2
  go_ret2
  rw [HV.out]
  exact ⟨rfl, Turned.refl _ _⟩

set_option maxRecDepth 100000 in
theorem quoted_no (c : UInt8) (r : B) (hc : c ≠ 34) (w : World) : Calls Tryz.prog 92 #[.string (bs (c :: r))] w (QuoPost w (quoV (c :: r))) := by
  have hd : (((bs (c :: r)).size : Int) == 0) = false := by rw [bs_size]; simp; omega
  have HV : Hid (quoV (c :: r) = ([], 0)) := quoV_none (by unfold rText; simp [hc])
  have hix : ∀ W, (Instr.index 9 (.string (bs (c :: r))) (.int .i64 0)).run Tryz.prog W = .ok (.int .u8 (c.toNat : Nat)) W := ix_str (c :: r) 0 c rfl
  have hne : ((c.toNat : Int) != 34) = true := by
    have : c.toNat ≠ 34 := fun q => hc (UInt8.toNat_inj.1 q)
    simp; omega
  clear hc
  obtain ⟨R, hR⟩ : ∃ R, R = quoV (c :: r) := ⟨_, rfl⟩
  rw [← hR] at HV ⊢
  clear hR
  generalize bs (c :: r) = x at *
  go_enter Tryz.func92, Tryz.ntmps92
  go_wp2
  go_ret2
  rw [HV.out]
  exact ⟨rfl, Turned.refl _ _⟩

set_option maxRecDepth 100000 in
set_option maxHeartbeats 8000000 in
theorem quoted_yes (s t : B) (hst : s = 34 :: t) (hs : s.length ≤ 1000000) (w : World) : Calls Tryz.prog 92 #[.string (bs s)] w (QuoPost w (quoV s)) := by
  have HSZ : Hid ((bs s).size = s.length) := bs_size s
  have HS : Hid (s.length ≤ 1000000) := hs
  have hd : (((bs s).size : Int) == 0) = false := by rw [bs_size, hst]; simp; omega
  have hix0 : ∀ W, (Instr.index 9 (.string (bs s)) (.int .i64 0)).run Tryz.prog W = .ok (.int .u8 34) W := by subst hst; exact ix_str (34 :: t) 0 34 rfl
  have IX : Hid (∀ (k : Nat) (c : UInt8), s[k]? = some c → ∀ W, (Instr.index 9 (.string (bs s)) (.int .i64 (k : Nat))).run Tryz.prog W = .ok (.int .u8 (c.toNat : Nat)) W) := fun k c h W => ix_str s k c h W
  have B0 : Hid (QuoR w s t (s.length - 1) (.slice none 0 0) (.int .i64 1) w) := ⟨[], 1, fun _ => False, rfl, rfl, Nat.le_refl _, by rw [hst]; simp, by simp, by rw [hst]; rfl, Sl.nil _ _ _ _, Turned.refl _ _, fun _ q => q.elim⟩
  have RT : Hid (rText s = qf [] t) := hidD (by rw [hst]; rfl)
  obtain ⟨R, hR⟩ : ∃ R, R = quoV s := ⟨_, rfl⟩
  rw [← hR]
  have HR : Hid (R = quoV s) := hR
  generalize bs s = x at *
  clear hs hR hst
  go_enter Tryz.func92, Tryz.ntmps92
  go_wp2
  go_loopg [4, 5] (s.length - 1) (fun g v vi wr => QuoR w s t g v vi wr)
  case atStart => exact B0.out
  case round =>
    obtain ⟨acc, i, S, rfl, hg, hi1, his, hai, hq, hsl, ht, hap⟩ := hrel
    have G : Hid (s.length - i = gk ∧ 1 ≤ i ∧ i ≤ s.length ∧ acc.length ≤ i ∧ s.length ≤ 1000000) := ⟨hg, hi1, his, hai, HS.out⟩
    have Q : Hid (qf [] t = qf acc (s.drop i)) := hq
    have SL : Hid (Sl wr S 5 1 u4 (bcells acc) acc.length) := hsl
    have T : Hid (Turned (fun _ => False) w wr) := ht
    have AP : Hid (∀ b, S b → w.heap.size ≤ b) := hap
    obtain ⟨a1, cap1, rfl, -, -⟩ := hsl.value
    clear hg hi1 his hai hq hsl ht hap B0
    have m1 : Hid (acc.length + 1 ≤ maxLen ∧ (acc.length + 1) * 1 ≤ 140737488355328) := hidD (by have := G.out; simp only [maxLen]; omega)
    by_cases hlt : i < s.length
    · obtain ⟨c, hc⟩ : ∃ c, s[i]? = some c := ⟨_, List.getElem?_eq_getElem hlt⟩
      have hdr := drop_cons hc
      have hix := IX.out i c hc
      have hd1 : decide ((i : Int) < (x.size : Int)) = true := by rw [HSZ.out]; simp; omega
      have hd2 : decide (i < x.size) = true := by rw [HSZ.out]; simp; omega
      have hw1 : wrap64 ((i : Int) + 1) = ((i + 1 : Nat) : Int) := w64_in _ (by have := G.out; omega)
      have HW1 : Hid (wrap64 ((i : Int) + 1) = ((i + 1 : Nat) : Int)) := hw1
      have hq := Q.out
      rw [hdr] at hq
      by_cases q34 : c = 34
      · subst q34
        rw [qf_end] at hq
        have HV : Hid (R = (acc, i + 1)) := hidD (by rw [HR.out, quoV_some (RT.out.trans hq), List.length_drop]; congr 1; omega)
        change ∀ W, (Instr.index 9 (.string x) (.int .i64 (i : Nat))).run Tryz.prog W = .ok (.int .u8 34) W at hix
        have hbk : (convert 26 9 (.slice a1 acc.length cap1)).run Tryz.prog wr = .ok (.string (bs acc)) wr := sl_back SL.out
        clear hq hdr hc hlt hw1
        go_wp2
        go_ret2
        rw [HV.out]
        refine ⟨?_, T.out⟩
        show Ending.returned (.tuple #[.string (bs acc), .int .i64 (wrap64 ((i : Int) + 1))]) = _
        rw [HW1.out]
      have n34 : ((c.toNat : Int) == 34) = false := by
        have : c.toNat ≠ 34 := fun q => q34 (UInt8.toNat_inj.1 q)
        simp; omega
      by_cases qb : c < 32 ∨ 126 < c
      · rw [qf_bad _ _ _ qb] at hq
        have HV : Hid (R = ([], 0)) := hidD (by rw [HR.out, quoV_none (RT.out.trans hq)])
        have hbad : c.toNat < 32 ∨ 126 < c.toNat := qb
        generalize c.toNat = m at *
        clear hq hdr hc hlt qb q34 hw1
        by_cases hb1 : m < 32
        · have e1 : decide ((m : Int) < 32) = true := by simp; omega
          have e2 : decide (m < 32) = true := by simp; omega
          clear hbad hb1
          go_wp2
          go_ret2
          rw [HV.out]
          exact ⟨rfl, T.out⟩
        · have e1 : decide ((m : Int) < 32) = false := by simp; omega
          have e2 : decide (m < 32) = false := by simp; omega
          have e3 : decide ((126 : Int) < (m : Int)) = true := by simp; omega
          have e4 : decide (126 < m) = true := by simp; omega
          clear hbad hb1
          go_wp2
          go_ret2
          rw [HV.out]
          exact ⟨rfl, T.out⟩
      have hgood : 32 ≤ c.toNat ∧ c.toNat ≤ 126 := by
        have h1 : ¬ c.toNat < 32 := fun q => qb (.inl q)
        have h2 : ¬ 126 < c.toNat := fun q => qb (.inr q)
        omega
      have e1 : decide ((c.toNat : Int) < 32) = false := by simp; omega
      have e2 : decide (c.toNat < 32) = false := by simp; omega
      have e3 : decide ((126 : Int) < (c.toNat : Int)) = false := by simp; omega
      have e4 : decide (126 < c.toNat) = false := by simp; omega
      by_cases q92 : c = 92
      · subst q92
        change ∀ W, (Instr.index 9 (.string x) (.int .i64 (i : Nat))).run Tryz.prog W = .ok (.int .u8 92) W at hix
        have hw3 : wrap64 ((i : Int) + 3) = ((i + 3 : Nat) : Int) := w64_in _ (by have := G.out; omega)
        have hw2 : wrap64 ((i : Int) + 2) = ((i + 2 : Nat) : Int) := w64_in _ (by have := G.out; omega)
        clear e1 e2 e3 e4 n34 qb q34 hgood
        by_cases h1 : i + 1 < s.length
        · obtain ⟨c1, hc1⟩ : ∃ c, s[i + 1]? = some c := ⟨_, List.getElem?_eq_getElem h1⟩
          have hdr1 := drop_cons hc1
          have p1 : decide (wrap64 ((i : Int) + 1) < (x.size : Int)) = true := by rw [hw1, HSZ.out]; simp; omega
          have ix1 : ∀ W, (Instr.index 9 (.string x) (.int .i64 (wrap64 ((i : Int) + 1)))).run Tryz.prog W = .ok (.int .u8 (c1.toNat : Nat)) W := by rw [hw1]; exact IX.out (i + 1) c1 hc1
          by_cases k34 : c1 = 34 ∨ c1 = 92
          · have hesc : esc (s.drop (i + 1)) = some (c1, 1) := by rw [hdr1]; rcases k34 with rfl | rfl <;> rfl
            have HQ : Hid (qf [] t = qf (acc ++ [c1]) (s.drop (i + 2)) ∧ i + 1 < s.length) := hidD ⟨by rw [hq, qf_esc _ _ _ _ hesc, List.drop_drop], h1⟩
            have HW2 : Hid (wrap64 (wrap64 ((i : Int) + 1) + 1) = ((i + 2 : Nat) : Int)) := hidD (by rw [hw1]; exact (w64_in _ (by have := G.out; omega)).trans (by omega))
            have A1 : Hid (Sl (wr.alloc (.cells #[.int .u8 (c1.toNat : Nat)] 5)) S 5 1 (.slice a1 acc.length cap1) (bcells acc) acc.length) := SL.out.turned (Turned.alloc (fun _ => False) wr _) (fun _ _ q => q)
            have y1 : ((c1.toNat : Int) == 34) = decide (c1 = 34) := by rcases k34 with rfl | rfl <;> rfl
            have y2 : ((c1.toNat : Int) == 92) = decide (c1 = 92) := by rcases k34 with rfl | rfl <;> rfl
            rcases k34 with rfl | rfl
            all_goals
              first
                | change ∀ W, (Instr.index 9 (.string x) (.int .i64 (wrap64 ((i : Int) + 1)))).run Tryz.prog W = .ok (.int .u8 34) W at ix1
                | change ∀ W, (Instr.index 9 (.string x) (.int .i64 (wrap64 ((i : Int) + 1)))).run Tryz.prog W = .ok (.int .u8 92) W at ix1
              clear hq hdr hc hlt hdr1 hc1 h1 hesc hw1 hw2 hw3 y1 y2
              go_wp2_with (first
                | (at_builtin; refine wpList_append rfl _ _ 26 26 rfl A1.out Tryz.underlying26 info5 rfl (by decide) rfl (.slice (some ⟨wr.heap.size, 0, none⟩) 1 1) rfl (src_one Tryz.underlying26 _ rfl wr) m1.out.1 m1.out.2 ?_
                   intro x4 w9 q1 t1
                   obtain ⟨a3, cap3, hv3, -, -⟩ := q1.value
                   subst hv3
                   have Q1 := hid_two q1 t1
                   clear q1 t1))
              go_roundg (s.length - (i + 2))
              case measure => have := G.out; have := HQ.out; omega
              case rel => exact quo_step (.inr G.out.2.2.2.1) (by have := HQ.out.2; have := G.out; omega) (by simp [HW2.out]) T.out AP.out Q1.out.1 Q1.out.2 HQ.out.1
          · have n1 : ((c1.toNat : Int) == 34) = false := by
              have : c1.toNat ≠ 34 := fun q => k34 (.inl (UInt8.toNat_inj.1 q))
              simp; omega
            have n2 : ((c1.toNat : Int) == 92) = false := by
              have : c1.toNat ≠ 92 := fun q => k34 (.inr (UInt8.toNat_inj.1 q))
              simp; omega
            by_cases h3 : i + 3 < s.length
            · have p3 : decide (wrap64 ((i : Int) + 3) < (x.size : Int)) = true := by rw [hw3, HSZ.out]; simp; omega
              by_cases kx : c1 = 120
              · subst kx
                change ∀ W, (Instr.index 9 (.string x) (.int .i64 (wrap64 ((i : Int) + 1)))).run Tryz.prog W = .ok (.int .u8 120) W at ix1
                obtain ⟨c2, hc2⟩ : ∃ c, s[i + 2]? = some c := ⟨_, List.getElem?_eq_getElem (by omega)⟩
                obtain ⟨c3, hc3⟩ : ∃ c, s[i + 3]? = some c := ⟨_, List.getElem?_eq_getElem h3⟩
                have hdr2 := drop_cons hc2
                have hdr3 := drop_cons hc3
                have ix2 : ∀ W, (Instr.index 9 (.string x) (.int .i64 (wrap64 ((i : Int) + 2)))).run Tryz.prog W = .ok (.int .u8 (c2.toNat : Nat)) W := by rw [hw2]; exact IX.out (i + 2) c2 hc2
                have ix3 : ∀ W, (Instr.index 9 (.string x) (.int .i64 (wrap64 ((i : Int) + 3)))).run Tryz.prog W = .ok (.int .u8 (c3.toNat : Nat)) W := by rw [hw3]; exact IX.out (i + 3) c3 hc3
                have hg2 : ∀ W, Calls Tryz.prog 103 #[.int .u8 (c2.toNat : Nat)] W fun e w' => e = .returned (.int .i64 (hexI c2)) ∧ W = w' := fun W => (digit_any c2 W).mono fun e w' h => ⟨h.1, h.2.symm⟩
                have hg3 : ∀ W, Calls Tryz.prog 103 #[.int .u8 (c3.toNat : Nat)] W fun e w' => e = .returned (.int .i64 (hexI c3)) ∧ W = w' := fun W => (digit_any c3 W).mono fun e w' h => ⟨h.1, h.2.symm⟩
                have hesc : esc (s.drop (i + 1)) = (match hexv c2, hexv c3 with | some p, some q => some (16 * p + q, 3) | _, _ => none) := by
                  rw [hdr1, hdr2, hdr3]; rfl
                cases hx2 : hexv c2 with
                | none =>
                  rw [hx2] at hesc
                  rw [hexI_none hx2] at hg2
                  have HV : Hid (R = ([], 0)) := hidD (by rw [HR.out, quoV_none (RT.out.trans (hq.trans (qf_esc_none _ _ hesc)))])
                  clear hq hdr hc hlt hdr1 hc1 h1 hesc hw1 hw2 hw3 hdr2 hdr3 hc2 hc3 h3 k34
                  go_wp2_with (go_at_call 103; (with_reducible refine (hg2 _).mono ?_); rintro e w4 ⟨rfl, rfl⟩; clear hg2)
                  go_ret2
                  rw [HV.out]
                  exact ⟨rfl, T.out⟩
                | some pv =>
                  have hp := hexI_some hx2
                  cases hx3 : hexv c3 with
                  | none =>
                    rw [hx2, hx3] at hesc
                    rw [hexI_none hx3] at hg3
                    have z2 : decide ((0 : Int) ≤ hexI c2) = true := by rw [hp.1]; simp
                    have HV : Hid (R = ([], 0)) := hidD (by rw [HR.out, quoV_none (RT.out.trans (hq.trans (qf_esc_none _ _ hesc)))])
                    generalize hexI c2 = dv at *
                    clear hq hdr hc hlt hdr1 hc1 h1 hesc hw1 hw2 hw3 hdr2 hdr3 hc2 hc3 h3 k34 hp
                    go_wp2_with (first | (go_at_call 103; (with_reducible refine (hg2 _).mono ?_); rintro e w4 ⟨rfl, rfl⟩; clear hg2) | (go_at_call 103; (with_reducible refine (hg3 _).mono ?_); rintro e w4 ⟨rfl, rfl⟩; clear hg3))
                    go_ret2
                    rw [HV.out]
                    exact ⟨rfl, T.out⟩
                  | some qv =>
                    have hr := hexI_some hx3
                    rw [hx2, hx3] at hesc
                    have HQ : Hid (qf [] t = qf (acc ++ [16 * pv + qv]) (s.drop (i + 4)) ∧ i + 3 < s.length) := hidD ⟨by rw [hq, qf_esc _ _ _ _ hesc, List.drop_drop], h3⟩
                    have HW2 : Hid (wrap64 (wrap64 ((i : Int) + 3) + 1) = ((i + 4 : Nat) : Int)) := hidD (by rw [hw3]; exact (w64_in _ (by have := G.out; omega)).trans (by omega))
                    have hv : ((16 * pv + qv).toNat : Int) = 16 * hexI c2 + hexI c3 := by rw [hex_two hp.2 hr.2, hp.1, hr.1]; omega
                    have z2 : decide ((0 : Int) ≤ hexI c2) = true := by rw [hp.1]; simp
                    have z3 : decide ((0 : Int) ≤ hexI c3) = true := by rw [hr.1]; simp
                    have v1 : IntKind.i64.wrap (16 * hexI c2) = 16 * hexI c2 := Go.IntWalk.i64_in _ (by rw [hp.1]; have := hp.2; omega)
                    have v2 : IntKind.i64.wrap (16 * hexI c2 + hexI c3) = 16 * hexI c2 + hexI c3 := Go.IntWalk.i64_in _ (by rw [hp.1, hr.1]; have := hp.2; have := hr.2; omega)
                    have v3 : IntKind.u8.wrap (16 * hexI c2 + hexI c3) = 16 * hexI c2 + hexI c3 := Go.IntWalk.u8_in _ (by rw [hp.1, hr.1]; have := hp.2; have := hr.2; omega)
                    have V : Hid (0 ≤ hexI c2 ∧ hexI c2 ≤ 15 ∧ 0 ≤ hexI c3 ∧ hexI c3 ≤ 15) := hidD (by rw [hp.1, hr.1]; have := hp.2; have := hr.2; omega)
                    have ix2' : ∀ W, (Instr.index 9 (.string x) (.int .i64 (IntKind.i64.wrap ((i : Int) + 2)))).run Tryz.prog W = .ok (.int .u8 (c2.toNat : Nat)) W := by
                      rw [show IntKind.i64.wrap ((i : Int) + 2) = ((i + 2 : Nat) : Int) from (Go.IntWalk.i64_in _ (by have := G.out; omega)).trans (by omega)]
                      exact IX.out (i + 2) c2 hc2
                    have ix3' : ∀ W, (Instr.index 9 (.string x) (.int .i64 (IntKind.i64.wrap ((i : Int) + 3)))).run Tryz.prog W = .ok (.int .u8 (c3.toNat : Nat)) W := by
                      rw [show IntKind.i64.wrap ((i : Int) + 3) = ((i + 3 : Nat) : Int) from (Go.IntWalk.i64_in _ (by have := G.out; omega)).trans (by omega)]
                      exact IX.out (i + 3) c3 hc3
                    generalize (16 * pv + qv) = ev at *
                    clear hq hdr hc hlt hdr1 hc1 h1 hesc hw1 hw2 hw3 hdr2 hdr3 hc2 hc3 h3 k34 hp hr hx2 hx3
                    have G2 : Hid (∀ W, Calls Tryz.prog 103 #[.int .u8 (c2.toNat : Nat)] W fun e w' => e = .returned (.int .i64 (hexI c2)) ∧ W = w') := hg2
                    have G3 : Hid (∀ W, Calls Tryz.prog 103 #[.int .u8 (c3.toNat : Nat)] W fun e w' => e = .returned (.int .i64 (hexI c3)) ∧ W = w') := hg3
                    generalize hexI c2 = d2 at *
                    generalize hexI c3 = d3 at *
                    go_wp2_with (first | (go_at_call 103; (with_reducible refine (hg2 _).mono ?_); rintro e w4 ⟨rfl, rfl⟩; clear hg2) | (go_at_call 103; (with_reducible refine (hg3 _).mono ?_); rintro e w4 ⟨rfl, rfl⟩; clear hg3))
                    have A1 : Hid (∀ o, Sl ((wr.alloc o).drew) S 5 1 (.slice a1 acc.length cap1) (bcells acc) acc.length) := fun o => (SL.out.turned (Turned.alloc (fun _ => False) wr o) (fun _ _ q => q)).drew
                    go_region_law (first
                      | (go_simp; go_at_call 103; (with_reducible refine (G2.out _).mono ?_); rintro e w4 ⟨rfl, rfl⟩)
                      | (go_simp; go_at_call 103; (with_reducible refine (G3.out _).mono ?_); rintro e w4 ⟨rfl, rfl⟩)
                      | ((refine step_append (by rfl) _ _ 26 26 (by rfl) (A1.out _) Tryz.underlying26 info5 rfl (by decide) (by rfl) (.slice (some ⟨wr.heap.size, 0, none⟩) 1 1) (by rfl) (src_one Tryz.underlying26 _ rfl wr.drew) m1.out.1 m1.out.2 ?_
                          intro x4 w9 q1 t1
                          obtain ⟨a3, cap3, hv3, -, -⟩ := q1.value
                          subst hv3
                          have Q1 := hid_two q1 t1
                          clear q1 t1)))
                    all_goals
                      go_wp2
                      go_roundg (s.length - (i + 4))
                      case measure => have := G.out; have := HQ.out.2; omega
                      case rel =>
                        have Q2 := Q1.out
                        rw [← hv] at Q2
                        exact quo_step (wr := wr.drew) (o := .cells #[.int .u8 (ev.toNat : Nat)] 5) (.inr G.out.2.2.2.1) (by have := HQ.out.2; have := G.out; omega) (by simp [HW2.out]) T.out.draw AP.out Q2.1 Q2.2 HQ.out.1
              · have n3 : ((c1.toNat : Int) == 120) = false := by
                  have : c1.toNat ≠ 120 := fun q => kx (UInt8.toNat_inj.1 q)
                  simp; omega
                have HV : Hid (R = ([], 0)) := hidD (by rw [HR.out, quoV_none (RT.out.trans (hq.trans (qf_esc_none _ _ (by rw [hdr1]; exact esc_not k34 kx))))])
                clear hq hdr hc hlt hdr1 hc1 h1 hw1 hw2 hw3 h3 k34 kx
                go_wp2
                go_ret2
                rw [HV.out]
                exact ⟨rfl, T.out⟩
            · have p3 : decide (wrap64 ((i : Int) + 3) < (x.size : Int)) = false := by rw [hw3, HSZ.out]; simp; omega
              have HV : Hid (R = ([], 0)) := hidD (by rw [HR.out, quoV_none (RT.out.trans (hq.trans (qf_esc_none _ _ (by rw [hdr1]; exact esc_short k34 (by simp; omega)))))])
              clear hq hdr hc hlt hdr1 hc1 h1 hw1 hw2 hw3 h3 k34
              go_wp2
              go_ret2
              rw [HV.out]
              exact ⟨rfl, T.out⟩
        · have p1 : decide (wrap64 ((i : Int) + 1) < (x.size : Int)) = false := by rw [hw1, HSZ.out]; simp; omega
          have p3 : decide (wrap64 ((i : Int) + 3) < (x.size : Int)) = false := by rw [hw3, HSZ.out]; simp; omega
          have HV : Hid (R = ([], 0)) := hidD (by rw [HR.out, quoV_none (RT.out.trans (hq.trans (qf_esc_none _ _ (by rw [List.drop_eq_nil_of_le (by omega)]; rfl))))])
          clear hq hdr hc hlt h1 hw1 hw2 hw3
          go_wp2
          go_ret2
          rw [HV.out]
          exact ⟨rfl, T.out⟩
      · rw [qf_plain _ _ _ q34 qb q92] at hq
        have HQ : Hid (qf [] t = qf (acc ++ [c]) (s.drop (i + 1)) ∧ i < s.length) := ⟨hq, hlt⟩
        have n92 : ((c.toNat : Int) != 92) = true := by
          have : c.toNat ≠ 92 := fun q => q92 (UInt8.toNat_inj.1 q)
          simp; omega
        have A1 : Hid (Sl (wr.alloc (.cells #[.int .u8 (c.toNat : Nat)] 5)) S 5 1 (.slice a1 acc.length cap1) (bcells acc) acc.length) := SL.out.turned (Turned.alloc (fun _ => False) wr _) (fun _ _ q => q)
        clear hq hdr hc hlt qb q34 q92 hgood hw1
        go_wp2_with (first
          | (at_builtin; refine wpList_append rfl _ _ 26 26 rfl A1.out Tryz.underlying26 info5 rfl (by decide) rfl (.slice (some ⟨wr.heap.size, 0, none⟩) 1 1) rfl (src_one Tryz.underlying26 (.int .u8 (c.toNat : Nat)) rfl wr) m1.out.1 m1.out.2 ?_
             intro x4 w9 q1 t1
             obtain ⟨a3, cap3, hv3, -, -⟩ := q1.value
             subst hv3
             have Q1 : Hid (Sl w9 (More S (wr.alloc (.cells #[.int .u8 (c.toNat : Nat)] 5))) 5 1 (.slice a3 (acc.length + 1) cap3) (bcells acc ++ [.int .u8 (c.toNat : Nat)]) (acc.length + 1) ∧ Turned S (wr.alloc (.cells #[.int .u8 (c.toNat : Nat)] 5)) w9) := ⟨q1, t1⟩
             clear q1 t1))
        go_roundg (s.length - (i + 1))
        case measure => have := G.out; have := HQ.out; omega
        case rel => exact quo_step (.inr G.out.2.2.2.1) (by have := HQ.out.2; have := G.out; omega) (by simp [HW1.out]) T.out AP.out Q1.out.1 Q1.out.2 HQ.out.1
    · have hd1 : decide ((i : Int) < (x.size : Int)) = false := by rw [HSZ.out]; simp; omega
      have hd2 : decide (i < x.size) = false := by rw [HSZ.out]; simp; omega
      have hq := Q.out
      rw [List.drop_eq_nil_of_le (by omega), qf_nil] at hq
      have HV : Hid (R = ([], 0)) := hidD (by rw [HR.out, quoV_none (RT.out.trans hq)])
      clear hq hlt
      go_wp2
      go_ret2
      rw [HV.out]
      exact ⟨rfl, T.out⟩
theorem quoted_any (s : B) (hs : s.length ≤ 1000000) (w : World) : Calls Tryz.prog 92 #[.string (bs s)] w (QuoPost w (quoV s)) := by
  cases s with
  | nil => exact quoted_nil w
  | cons c t =>
    by_cases hc : c = 34
    · subst hc; exact quoted_yes _ t rfl hs w
    · exact quoted_no c t hc w
end Go.Proofs.YteblabpplaaddaaGreatDoor
