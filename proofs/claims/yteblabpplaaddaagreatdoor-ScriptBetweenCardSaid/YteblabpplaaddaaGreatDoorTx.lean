/- A line's quoted text: the walk of text. -/
import Derived.Test.YteblabpplaaddaaGreatDoorEs
import Derived.Test.YteblabpplaaddaaGreatDoorNs
set_option linter.unusedVariables false
set_option linter.unusedSimpArgs false
namespace Go.Proofs.YteblabpplaaddaaGreatDoor
open Go.RowKit Go.Mine Go.Mine.Sc

def bcells (l : B) : List Value := l.map fun b => Value.int .u8 (b.toNat : Nat)
theorem bcells_length (l : B) : (bcells l).length = l.length := by simp [bcells]
theorem bcells_app (a b : B) : bcells (a ++ b) = bcells a ++ bcells b := by simp [bcells]
theorem info5 : (Tryz.prog.info? 5).map (fun i => (i.zero, i.size, i.bytes)) = some (some (.int .u8 0), 1, 1) := by kernel_rfl

theorem sl_back {w : World} {R : Nat → Prop} {v : Value} {l : B} (h : Sl w R 5 1 v (bcells l) l.length) : (convert 26 9 v).run Tryz.prog w = .ok (.string (bs l)) w := by
  rcases h.2 with ⟨rfl, hn⟩ | ⟨g, off, cap, cur, rfl, -, hg, hnc, hcm, hcs, htake⟩
  · have : l = [] := List.eq_nil_of_length_eq_zero hn
    subst this
    exact run_convert_bytes_nil w 26 5 Tryz.underlying26 Tryz.underlying5 0 0 9 Tryz.underlying9
  · refine run_convert_bytes_back (P := Tryz.prog) w 26 9 5 ⟨g, off, none⟩ cap l Tryz.underlying26 Tryz.underlying5 Tryz.underlying9 fun j hj => ?_
    rw [Addr.add_lit, cell_of_row _ _ _ _ _ _ hg]
    have h1 : ((cur.toList.drop off).take (l.length * 1))[j]? = some (.int .u8 (l[j].toNat : Nat)) := by
      rw [htake]
      simp [bcells, hj]
    rw [List.getElem?_take, if_pos (by omega), List.getElem?_drop] at h1
    simpa using h1

theorem esc_le {r : B} {x : UInt8} {n : Nat} (h : esc r = some (x, n)) : n ≤ r.length ∧ 1 ≤ n ∧ n ≤ 3 := by
  cases r with
  | nil => simp [esc] at h
  | cons c t =>
    by_cases c1 : c = 34
    · simp [esc, c1] at h; simp; omega
    by_cases c2 : c = 92
    · simp [esc, c2] at h; simp; omega
    by_cases c3 : c = 120
    · rcases t with _ | ⟨a, _ | ⟨b, u⟩⟩
      · simp [esc, c3] at h
      · simp [esc, c3] at h
      · simp [esc, c3] at h
        cases ha : hexv a with
        | none => rw [ha] at h; simp at h
        | some p =>
          cases hb : hexv b with
          | none => rw [ha, hb] at h; simp at h
          | some q => rw [ha, hb] at h; simp at h; simp; omega
    · simp [esc, c1, c2, c3] at h

/-- what the loop of text keeps -/
def TxR (w0 w : World) (p : Nat) (u t : B) (g : Nat) (v vi : Value) (wr : World) : Prop :=
  ∃ (acc : B) (i : Nat) (S : Nat → Prop), vi = .int .i64 (i : Nat) ∧ u.length - i = g ∧ 1 ≤ i ∧ i ≤ u.length ∧ acc.length ≤ i ∧ qf [] t = qf acc (u.drop i) ∧ LineAt wr p u ∧ Sl wr S 5 1 v (bcells acc) acc.length ∧ Turned (fun _ => False) w wr ∧ (∀ b, S b → w.heap.size ≤ b) ∧ Lw w0 wr

def TextPost (w : World) (p : Nat) : Option (B × B) → Ending → World → Prop
  | some (x, r), e, w' => e = .returned (.string (bs x)) ∧ LineAt w' p r ∧ Turned (· = p) w w'
  | none, e, w' => e = .panicked [wrongE] ∧ Turned (· = p) w w'

set_option maxRecDepth 100000 in
theorem text_blank (p : Nat) (s : B) (w : World) (h : LineAt w p s) (hs : s.head? ≠ some 32) : Calls Tryz.prog 54 #[pt p] w fun e w' => e = .panicked [wrongE] ∧ Turned (· = p) w w' := by
  have hb := blank_no p s w h hs
  clear h hs
  go_enter Tryz.func54, Tryz.ntmps54
  go_wp2_with (go_at_call 84; (with_reducible refine hb.mono ?_); rintro e w1 ⟨rfl, ht⟩)
  exact ⟨rfl, rfl, ht.mono fun _ _ q => q.elim⟩

set_option maxRecDepth 100000 in
theorem text_quote (p : Nat) (t : B) (w : World) (h : LineAt w p (32 :: t)) (hq : t.head? ≠ some 34) : Calls Tryz.prog 54 #[pt p] w fun e w' => e = .panicked [wrongE] ∧ Turned (· = p) w w' := by
  have hb := blank_ok p t w h
  have t1 : Turned (· = p) w (w.setCell ⟨p, 0, none⟩ (.string (bs t))) := line_turn _
  have h1 := line_put h t
  generalize w.setCell ⟨p, 0, none⟩ (.string (bs t)) = w1 at *
  have hp := hp_any 34 t w1
  rw [decide_eq_false hq] at hp
  have c0 := cell_of h1 0 _ rfl
  have f0 := free_of h1 0
  have l0 := lt_of_block h1
  clear h hq h1
  generalize bs t = x at *
  go_enter Tryz.func54, Tryz.ntmps54
  go_wp2_with (first
    | (go_at_call 84; (with_reducible refine hb.mono ?_); rintro e w1 ⟨rfl, rfl⟩)
    | (go_at_call 86; (with_reducible refine hp.mono ?_); rintro e w1 ⟨rfl, rfl⟩))
  exact ⟨rfl, rfl, t1⟩

set_option maxRecDepth 100000 in
set_option maxHeartbeats 4000000 in
theorem text_ok (w0 : World) (p : Nat) (t : B) (w : World) (hL : Lw w0 w) (hp : w0.heap.size ≤ p) (h : LineAt w p (32 :: 34 :: t)) (hs : t.length ≤ 1000000) :
    Calls Tryz.prog 54 #[pt p] w (TextPost w p (qf [] t)) := by
  obtain ⟨u, hu⟩ : ∃ u, u = 34 :: t := ⟨_, rfl⟩
  rw [← hu] at h
  have hb := blank_ok p u w h
  have t1 : Turned (· = p) w (w.setCell ⟨p, 0, none⟩ (.string (bs u))) := line_turn _
  have h1 := line_put h u
  have hL1 : Lw w0 (w.setCell ⟨p, 0, none⟩ (.string (bs u))) := hL.turned t1 fun b q => by omega
  generalize w.setCell ⟨p, 0, none⟩ (.string (bs u)) = w1 at *
  have hpx := hp_any 34 u w1
  rw [decide_eq_true (by rw [hu]; rfl)] at hpx
  have hul : u.length = t.length + 1 := by rw [hu]; simp
  have B0 : Hid (TxR w0 w1 p u t (u.length - 1) (.slice none 0 0) (.int .i64 1) w1) := ⟨[], 1, fun _ => False, rfl, rfl, by omega, by omega, by simp, by rw [hu]; rfl, h1, Sl.nil _ _ _ _, Turned.refl _ _, fun _ q => q.elim, hL1⟩
  have HP : Hid (w0.heap.size ≤ p ∧ p < w1.heap.size ∧ u.length ≤ 1000001 ∧ Turned (· = p) w w1) := ⟨hp, lt_of_block h1, by omega, t1⟩
  have HZ : Hid (∀ (W : World) (r : B), LineAt W p u → LineAt (W.setCell ⟨p, 0, none⟩ (.string (bs r))) p r) := (fun W r q => line_put q _ : ∀ (W : World) (r : B), LineAt W p u → LineAt (W.setCell ⟨p, 0, none⟩ (.string (bs r))) p r)
  have c0 := cell_of h1 0 _ rfl
  have f0 := free_of h1 0
  have l0 := lt_of_block h1
  have hsz := bs_size u
  have HB : Hid (∀ W, LineAt W p u ↔ W.heap[p]? = some (.cells #[.string (bs u)] 69 (0, 0))) := (fun _ => Iff.rfl : ∀ W, LineAt W p u ↔ W.heap[p]? = some (.cells #[.string (bs u)] 69 (0, 0)))
  have HSZ : Hid ((bs u).size = u.length) := hsz
  have IX : Hid (∀ (k : Nat) (c : UInt8), u[k]? = some c → ∀ W, (Instr.index 9 (.string (bs u)) (.int .i64 (k : Nat))).run Tryz.prog W = .ok (.int .u8 (c.toNat : Nat)) W) := fun k c h W => ix_str u k c h W
  have SF : Hid (∀ (k : Nat), k ≤ u.length → ∀ W, (Instr.slice 9 (.string (bs u)) (some (.int .i64 (k : Nat))) none none).run Tryz.prog W = .ok (.string (bs (u.drop k))) W) := fun k h W => sl_from u k h W
  clear hL hp h hs h1 hL1 t1 hul hu hsz
  generalize bs u = x at *
  go_enter Tryz.func54, Tryz.ntmps54
  go_wp2_with (first
    | (go_at_call 84; (with_reducible refine hb.mono ?_); rintro e w1 ⟨rfl, rfl⟩)
    | (go_at_call 86; (with_reducible refine hpx.mono ?_); rintro e w1 ⟨rfl, rfl⟩))
  go_loopg [3, 4] (u.length - 1) (fun g v vi wr => TxR w0 w1 p u t g v vi wr)
  case atStart => exact B0.out
  case round =>
    obtain ⟨acc, i, S, rfl, hg, hi1, hiu, hai, hq, hl, hsl, ht, hap, hlw⟩ := hrel
    have G : Hid (u.length - i = gk ∧ 1 ≤ i ∧ i ≤ u.length ∧ acc.length ≤ i) := ⟨hg, hi1, hiu, hai⟩
    have Q : Hid (qf [] t = qf acc (u.drop i)) := hq
    have L : Hid (LineAt wr p u) := hl
    have SL : Hid (Sl wr S 5 1 u3 (bcells acc) acc.length) := hsl
    have T : Hid (Turned (fun _ => False) w1 wr) := ht
    have AP : Hid (∀ b, S b → w1.heap.size ≤ b) := hap
    have LW : Hid (Lw w0 wr) := hlw
    obtain ⟨a1, cap1, rfl, -, -⟩ := hsl.value
    have b1 := (HB.out _).1 hl
    have c1 := cell_of b1 0 _ rfl
    have f1 := free_of b1 0
    have l1 := lt_of_block b1
    clear hg hi1 hiu hai hq hl hsl ht hap hlw B0 c0 f0 l0 b1 hb hpx
    have TP : Hid (∀ W, Turned (fun _ => False) wr W → Turned (· = p) w W) := (fun W q => (HP.out.2.2.2.trans T.out fun _ _ q => q.elim).trans q fun _ _ q => q.elim : ∀ W, Turned (fun _ => False) wr W → Turned (· = p) w W)
    by_cases hlt : i < u.length
    · obtain ⟨c, hc⟩ : ∃ c, u[i]? = some c := ⟨_, List.getElem?_eq_getElem hlt⟩
      have hdr : u.drop i = c :: u.drop (i + 1) := by
        rw [List.drop_eq_getElem_cons hlt]
        rw [List.getElem?_eq_getElem hlt] at hc
        injection hc with hc
        rw [hc]
      have hix := IX.out i c hc
      have hd1 : decide ((i : Int) < (x.size : Int)) = true := by rw [HSZ.out]; simp; omega
      have hd2 : decide (i < x.size) = true := by rw [HSZ.out]; simp; omega
      have hw1 : wrap64 ((i : Int) + 1) = ((i + 1 : Nat) : Int) := by have := HP.out.2.2.1; simp [wrap64]; omega
      have hq := Q.out
      rw [hdr] at hq
      by_cases q34 : c = 34
      · subst q34
        rw [qf_end] at hq
        have HQ : Hid (qf [] t = some (acc, u.drop (i + 1))) := hq
        have hs1 : ∀ W, (Instr.slice 9 (.string x) (some (.int .i64 (wrap64 ((i : Int) + 1)))) none none).run Tryz.prog W = .ok (.string (bs (u.drop (i + 1)))) W := fun W => by
          rw [hw1]; exact SF.out (i + 1) (by omega) W
        change ∀ W, (Instr.index 9 (.string x) (.int .i64 (i : Nat))).run Tryz.prog W = .ok (.int .u8 34) W at hix
        have hbk : ∀ v, (convert 26 9 (.slice a1 acc.length cap1)).run Tryz.prog (wr.setCell ⟨p, 0, none⟩ v) = .ok (.string (bs acc)) (wr.setCell ⟨p, 0, none⟩ v) := fun v => sl_back (SL.out.turned (line_turn v) fun b q z => by have := AP.out b q; have := HP.out.2.1; omega)
        have HY : Hid (∀ W, LineAt W p u → LineAt (W.setCell ⟨p, 0, none⟩ (.string (bs (u.drop (i + 1))))) p (u.drop (i + 1))) := (fun W q => HZ.out W _ q : ∀ W, LineAt W p u → LineAt (W.setCell ⟨p, 0, none⟩ (.string (bs (u.drop (i + 1))))) p (u.drop (i + 1)))
        generalize bs (u.drop (i + 1)) = z at *
        clear hq hdr hc hw1 hlt
        go_wp2
        go_ret
        rw [HQ.out]
        exact ⟨rfl, HY.out _ L.out, (TP.out _ (Turned.refl _ _)).set (p := ⟨p, 0, none⟩) rfl _⟩
      have n34 : ((c.toNat : Int) == 34) = false := by
        have : c.toNat ≠ 34 := fun q => q34 (UInt8.toNat_inj.1 q)
        simp; omega
      by_cases qb : c < 32 ∨ 126 < c
      · rw [qf_bad _ _ _ qb] at hq
        have HQ : Hid (qf [] t = none) := hq
        have hbad : c.toNat < 32 ∨ 126 < c.toNat := qb
        generalize c.toNat = m at *
        clear hq hdr hc hw1 hlt qb q34
        by_cases hb1 : m < 32
        · have e1 : decide ((m : Int) < 32) = true := by simp; omega
          have e2 : decide (m < 32) = true := by simp; omega
          clear hbad hb1
          go_wp2
          rw [HQ.out]
          exact ⟨rfl, rfl, TP.out _ (Turned.refl _ _)⟩
        · have e1 : decide ((m : Int) < 32) = false := by simp; omega
          have e2 : decide (m < 32) = false := by simp; omega
          have e3 : decide ((126 : Int) < (m : Int)) = true := by simp; omega
          have e4 : decide (126 < m) = true := by simp; omega
          clear hbad hb1
          go_wp2
          rw [HQ.out]
          exact ⟨rfl, rfl, TP.out _ (Turned.refl _ _)⟩
      have hgood : 32 ≤ c.toNat ∧ c.toNat ≤ 126 := by
        have h1 : ¬ c.toNat < 32 := fun q => qb (.inl q)
        have h2 : ¬ 126 < c.toNat := fun q => qb (.inr q)
        omega
      have e1 : decide ((c.toNat : Int) < 32) = false := by simp; omega
      have e2 : decide (c.toNat < 32) = false := by simp; omega
      have e3 : decide ((126 : Int) < (c.toNat : Int)) = false := by simp; omega
      have e4 : decide (126 < c.toNat) = false := by simp; omega
      have m1 : Hid (acc.length + 1 ≤ maxLen ∧ (acc.length + 1) * 1 ≤ 140737488355328) := (by have := G.out; have := HP.out.2.2.1; simp only [maxLen]; omega : acc.length + 1 ≤ maxLen ∧ (acc.length + 1) * 1 ≤ 140737488355328)
      by_cases q92 : c = 92
      · subst q92
        have hs1 : ∀ W, (Instr.slice 9 (.string x) (some (.int .i64 (wrap64 ((i : Int) + 1)))) none none).run Tryz.prog W = .ok (.string (bs (u.drop (i + 1)))) W := fun W => by
          rw [hw1]; exact SF.out (i + 1) (by omega) W
        change ∀ W, (Instr.index 9 (.string x) (.int .i64 (i : Nat))).run Tryz.prog W = .ok (.int .u8 92) W at hix
        have h87 := escape_any (u.drop (i + 1)) (by have := HP.out.2.2.1; simp; omega) w0 wr LW.out
        cases he : esc (u.drop (i + 1)) with
        | none =>
          rw [qf_esc_none _ _ he] at hq
          have HQ : Hid (qf [] t = none) := hq
          rw [he] at h87
          have h87 : Calls Tryz.prog 87 #[.string (bs (u.drop (i + 1)))] wr fun e w' => e = .panicked [wrongE] ∧ Turned (fun _ => False) wr w' := h87
          generalize bs (u.drop (i + 1)) = z at *
          clear hq hdr hc hw1 hlt qb q34 hgood e1 e2 e3 e4 n34 he
          go_wp2_with (go_at_call 87; (with_reducible refine h87.mono ?_); rintro e w2 ⟨rfl, ht2⟩)
          rw [HQ.out]
          exact ⟨rfl, rfl, TP.out _ ht2⟩
        | some xn =>
          obtain ⟨ex, en⟩ := xn
          rw [qf_esc _ _ _ _ he, List.drop_drop] at hq
          rw [he] at h87
          have hen := esc_le he
          rw [List.length_drop] at hen
          have HQ : Hid (qf [] t = qf (acc ++ [ex]) (u.drop (i + 1 + en)) ∧ i + 1 + en ≤ u.length ∧ 1 ≤ en) := ⟨hq, by omega, hen.2.1⟩
          have h87 : Calls Tryz.prog 87 #[.string (bs (u.drop (i + 1)))] wr fun e w' => e = .returned (.tuple #[.int .u8 (ex.toNat : Nat), .int .i64 (en : Nat)]) ∧ Turned (fun _ => False) wr w' := h87
          have HW : Hid (wrap64 (wrap64 ((i : Int) + (en : Int)) + 1) = ((i + 1 + en : Nat) : Int)) := by
            have : wrap64 (wrap64 ((i : Int) + (en : Int)) + 1) = ((i + 1 + en : Nat) : Int) := by have := HP.out.2.2.1; simp [wrap64]; omega
            exact this
          generalize bs (u.drop (i + 1)) = z at *
          clear hq hdr hc hw1 hlt qb q34 hgood e1 e2 e3 e4 n34 he hen
          go_wp2_with (first
            | (go_at_call 87; (with_reducible refine h87.mono ?_); rintro e w2 ⟨rfl, ht2⟩
               have T2 : Hid (Turned (fun _ => False) wr w2) := ht2
               have A1 : Hid (Sl (w2.alloc (.cells #[.int .u8 (ex.toNat : Nat)] 5)) S 5 1 (.slice a1 acc.length cap1) (bcells acc) acc.length) := (SL.out.turned ht2 (fun b q z => z)).turned (Turned.alloc (fun _ => False) w2 _) (fun _ _ q => q)
               clear ht2 h87)
            | (at_builtin; refine wpList_append rfl _ _ 26 26 rfl A1.out Tryz.underlying26 info5 rfl (by decide) rfl (.slice (some ⟨w2.heap.size, 0, none⟩) 1 1) rfl (src_one Tryz.underlying26 (.int .u8 (ex.toNat : Nat)) rfl w2) m1.out.1 m1.out.2 ?_
               intro x4 w9 q1 t1
               obtain ⟨a3, cap3, hv3, -, -⟩ := q1.value
               subst hv3
               have Q1 : Hid (Sl w9 (More S (w2.alloc (.cells #[.int .u8 (ex.toNat : Nat)] 5))) 5 1 (.slice a3 (acc.length + 1) cap3) (bcells acc ++ [.int .u8 (ex.toNat : Nat)]) (acc.length + 1) ∧ Turned S (w2.alloc (.cells #[.int .u8 (ex.toNat : Nat)] 5)) w9) := ⟨q1, t1⟩
               clear q1 t1))
          go_roundg (u.length - (i + 1 + en))
          case measure => have := G.out; have := HQ.out; omega
          case rel =>
            have hap := AP.out
            have s1 := T.out.size
            have s2 := T2.out.size
            have tn : Turned S w2 w9 := (Turned.alloc S w2 (.cells #[.int .u8 (ex.toNat : Nat)] 5)).trans Q1.out.2 fun _ _ q => q
            have t9 : Turned (fun _ => False) w1 w9 := (T.out.trans T2.out fun _ _ q => q).comp tn fun b hb q => q.elim id fun q => by have := hap b q; omega
            have sz : (w2.alloc (.cells #[.int .u8 (ex.toNat : Nat)] 5)).heap.size = w2.heap.size + 1 := by simp
            refine ⟨acc ++ [ex], i + 1 + en, More S (w2.alloc (.cells #[.int .u8 (ex.toNat : Nat)] 5)), ?_, rfl, by omega, HQ.out.2.1, ?_, HQ.out.1, ?_, ?_, t9, ?_, ?_⟩
            · rw [HW.out]
            · have := G.out; have := HQ.out.2.2; simp; omega
            · exact line_turned (line_turned L.out T2.out id) tn fun q => by have := hap _ q; have := HP.out.2.1; omega
            · rw [bcells_app, List.length_append]
              exact Q1.out.1
            · rintro b (q | q)
              · exact hap b q
              · omega
            · exact (LW.out.turned0 T2.out).turned tn fun b q => by have := hap b q; have := HP.out.1; have := HP.out.2.1; omega
      · rw [qf_plain _ _ _ q34 qb q92] at hq
        have n92 : ((c.toNat : Int) == 92) = false := by
          have : c.toNat ≠ 92 := fun q => q92 (UInt8.toNat_inj.1 q)
          simp; omega
        have HQ : Hid (qf [] t = qf (acc ++ [c]) (u.drop (i + 1))) := hq
        have HW : Hid (wrap64 ((i : Int) + 1) = ((i + 1 : Nat) : Int)) := hw1
        have HLT : Hid (i < u.length) := hlt
        have A1 : Hid (Sl (wr.alloc (.cells #[.int .u8 (c.toNat : Nat)] 5)) S 5 1 (.slice a1 acc.length cap1) (bcells acc) acc.length) := SL.out.turned (Turned.alloc (fun _ => False) wr _) (fun _ _ q => q)
        have SC : Hid (Src Tryz.prog 1 26 (.slice (some ⟨wr.heap.size, 0, none⟩) 1 1) 1 [.int .u8 (c.toNat : Nat)] (wr.alloc (.cells #[.int .u8 (c.toNat : Nat)] 5))) := src_one Tryz.underlying26 (.int .u8 (c.toNat : Nat)) rfl wr
        have HC : Hid (bcells (acc ++ [c]) = bcells acc ++ [.int .u8 (c.toNat : Nat)]) := bcells_app acc [c]
        generalize c.toNat = m at *
        clear hq hdr hc hw1 hlt qb q34 q92 hgood
        go_wp2_with
            (at_builtin; refine wpList_append rfl _ _ 26 26 rfl A1.out Tryz.underlying26 info5 rfl (by decide) rfl (.slice (some ⟨wr.heap.size, 0, none⟩) 1 1) rfl SC.out m1.out.1 m1.out.2 ?_
             intro x4 w9 q1 t1
             obtain ⟨a3, cap3, hv3, -, -⟩ := q1.value
             subst hv3
             have Q1 : Hid (Sl w9 (More S (wr.alloc (.cells #[.int .u8 (m : Nat)] 5))) 5 1 (.slice a3 (acc.length + 1) cap3) (bcells acc ++ [.int .u8 (m : Nat)]) (acc.length + 1) ∧ Turned S (wr.alloc (.cells #[.int .u8 (m : Nat)] 5)) w9) := ⟨q1, t1⟩
             clear q1 t1)
        go_roundg (u.length - (i + 1))
        case measure => have := G.out; have := HLT.out; omega
        case rel =>
          have hap := AP.out
          have s1 := T.out.size
          have tn : Turned S wr w9 := (Turned.alloc S wr (.cells #[.int .u8 (m : Nat)] 5)).trans Q1.out.2 fun _ _ q => q
          have t9 : Turned (fun _ => False) w1 w9 := T.out.comp tn fun b hb q => q.elim id fun q => by have := hap b q; omega
          have sz : (wr.alloc (.cells #[.int .u8 (m : Nat)] 5)).heap.size = wr.heap.size + 1 := by simp
          refine ⟨acc ++ [c], i + 1, More S (wr.alloc (.cells #[.int .u8 (m : Nat)] 5)), ?_, rfl, by omega, HLT.out, ?_, HQ.out, ?_, ?_, t9, ?_, ?_⟩
          · rw [HW.out]
          · have := G.out; simp; omega
          · exact line_turned L.out tn fun q => by have := hap _ q; have := HP.out.2.1; omega
          · rw [HC.out, List.length_append]
            exact Q1.out.1
          · rintro b (q | q)
            · exact hap b q
            · omega
          · exact LW.out.turned tn fun b q => by have := hap b q; have := HP.out.1; have := HP.out.2.1; omega
    · have he : u.drop i = [] := List.drop_eq_nil_of_le (by omega)
      have hq := Q.out
      rw [he, qf_nil] at hq
      have HQ : Hid (qf [] t = none) := hq
      have hd1 : decide ((i : Int) < (x.size : Int)) = false := by rw [HSZ.out]; simp; omega
      have hd2 : decide (i < x.size) = false := by rw [HSZ.out]; simp; omega
      clear he hq hlt
      go_wp2
      rw [HQ.out]
      exact ⟨rfl, rfl, TP.out _ (Turned.refl _ _)⟩
end Go.Proofs.YteblabpplaaddaaGreatDoor
