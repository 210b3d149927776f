/- The walk of the document's sorting of chunks. -/
import Derived.Test.YtfeljngmidhajaaSorted
namespace Go.Proofs.Ytfeljngmidhajaa
open Go.RowKit Go.Mine

theorem sl_bound {w : World} {S : Nat → Prop} {e : TypeId} {size : Nat} {v : Value} {xs : List Value} {n : Nat} (h : Sl w S e size v xs n) : Sl w (fun b => S b ∧ b < w.heap.size) e size v xs n := by
  refine ⟨h.1, ?_⟩
  rcases h.2 with h | ⟨g, off, cap, cur, h1, h2, h3, h4⟩
  · exact .inl h
  · exact .inr ⟨g, off, cap, cur, h1, ⟨h2, lt_of_block h3⟩, h3, h4⟩

theorem ccells_one (l : List Ch) : ∀ u ∈ ccells l, u.oneCell' = true := by
  intro u hu
  obtain ⟨j, hj⟩ := List.getElem?_of_mem hu
  obtain ⟨i, c, hi, ⟨_, rfl⟩ | ⟨_, rfl⟩⟩ := ccells_at l j u hj <;> rfl

/-- one chunk in a block of its own as what an append yields -/
theorem src_ch (c : Ch) (w : World) : Src Try.prog 2 22 (.slice (some ⟨w.heap.size, 0, none⟩) 1 1) 1 (ccells [c]) (w.alloc (.cells #[.int .u32 (c.1 : Nat), .string c.2] 31)) := by
  refine Src.ofSlice _ Try.underlying22 ⟨w.heap.size, 0, none⟩ 1 1 _ rfl (fun j u hj => ?_) (ccells_one _)
  rw [Addr.add_lit, Nat.zero_add]
  refine cell_of (heap_alloc_last w _) j u ?_
  rcases j with _ | _ | j
  · simpa [ccells] using hj
  · simpa [ccells] using hj
  · simp [ccells] at hj

def OutRel (w : World) (l : List Ch) (g : Nat) (v i : Value) (wr : World) : Prop :=
  ∃ j : Nat, j + g = l.length ∧ i = .int .i64 j ∧ Sl wr (fun b => w.heap.size ≤ b) 31 2 v (ccells (sortCh (l.take j))) j ∧ Turned (fun _ => False) w wr
def InRel (_w wr : World) (c : Ch) (out : List Ch) (g : Nat) (i : Value) (wq : World) : Prop :=
  ∃ n : Nat, n + g = insAt c out ∧ i = .int .i64 n ∧ Turned (fun _ => False) wr wq

set_option maxRecDepth 100000 in
set_option maxHeartbeats 2000000 in
theorem sorted_any (a : Option Addr) (cap : Nat) (l : List Ch) (w : World) (h : ChIs w a cap l) (hl : l.length ≤ 100000) :
    Calls Try.prog 49 #[.slice a l.length cap] w fun e w' => ∃ v, e = .returned v ∧ Sl w' (fun b => w.heap.size ≤ b) 31 2 v (ccells (sortCh l)) l.length ∧ Turned (fun _ => False) w w' := by
  have H : Hid (ChIs w a cap l) := h
  obtain ⟨L, hL⟩ : ∃ L, L = l.length := ⟨_, rfl⟩
  have HL : Hid (L = l.length) := hL
  rw [← hL]
  have hcap : Hid (L ≤ 100000) := hL ▸ hl
  clear h hL hl
  go_enter Try.func49, Try.ntmps49
  go_wp2
  have HS : Hid (OutRel w l L (.slice none 0 0) (.int .i64 0) w) := ⟨0, by rw [HL.out, Nat.zero_add], rfl, Sl.nil _ _ _ _, Turned.refl _ _⟩
  go_loopg [3, 4] L (fun g v i wr => OutRel w l g v i wr)
  case atStart => exact HS.out
  case round =>
    obtain ⟨j, hjg, rfl, hsl, ht⟩ := hrel
    have T : Hid (Turned (fun _ => False) w wr) := ht
    have G : Hid (j + gk = l.length) := hjg
    clear ht hjg HS
    by_cases hlt : j < L
    · obtain ⟨c, hc⟩ : ∃ c, l[j]? = some c := ⟨_, List.getElem?_eq_getElem (by rw [← HL.out]; exact hlt)⟩
      obtain ⟨out, hout⟩ : ∃ out, out = sortCh (l.take j) := ⟨_, rfl⟩
      have ho : out.length = j := by rw [hout, sortCh_length, List.length_take]; have := (List.getElem?_eq_some_iff.1 hc).1; omega
      rw [← hout] at hsl
      have O : Hid (out = sortCh (l.take j) ∧ out.length = j ∧ l[j]? = some c) := ⟨hout, ho, hc⟩
      obtain ⟨b, off, rfl, hbw, c0, c1⟩ := chIs_any (H.out.turned T.out) j c hc
      obtain ⟨oa, ocap, rfl, hoc, hom⟩ := hsl.value
      have SL : Hid (Sl wr (fun b => w.heap.size ≤ b) 31 2 (.slice oa j ocap) (ccells out) j) := hsl
      have B : Hid (b < w.heap.size) := by
        obtain ⟨b2, off2, q1, q2, -⟩ := H.out.2.2.2 (by have := HL.out; omega)
        simp at q1; rw [q1.1]; exact q2
      clear hout ho hc hsl
      go_wp2
      obtain ⟨wo, rfl⟩ : ∃ x : World, x = wr := ⟨wr, rfl⟩
      go_loopg [5] (insAt c out) (fun g i wq => InRel w wo c out g i wq)
      case atStart => exact ⟨0, Nat.zero_add _, rfl, Turned.refl _ _⟩
      case round =>
        obtain ⟨n, hng, rfl, htq⟩ := hrel
        have TQ : Hid (Turned (fun _ => False) wo wr) := htq
        have GN : Hid (n + gk = insAt c out) := hng
        have hle := insAt_le c out
        rw [O.out.2.1] at hle
        have c0' : wr.cell? ⟨b, off + j * 2, none⟩ = some (.int .u32 (c.1 : Nat)) := by rw [World.cell?_of_block (w' := wr) (TQ.out.block b hbw fun q => q)]; exact c0
        have c1' : wr.cell? ⟨b, off + j * 2 + 1, none⟩ = some (.string c.2) := by rw [World.cell?_of_block (w' := wr) (TQ.out.block b hbw fun q => q)]; exact c1
        have hbr : b < wr.heap.size := Nat.lt_of_lt_of_le hbw TQ.out.size
        clear htq hng c0 c1 hbw
        by_cases hn : n < insAt c out
        · obtain ⟨d, hd⟩ : ∃ d, out[n]? = some d := ⟨_, List.getElem?_eq_getElem (by rw [O.out.2.1]; omega)⟩
          have hdc := insAt_lt c out n d hn hd
          have hnj : n < j := by omega
          obtain ⟨g, o2, ocap2, hv, -, -, -, hcl, -, hgl⟩ := (SL.out.turned TQ.out fun _ _ q => q).opens (by omega)
          injection hv with e1 e2 e3
          subst e1
          subst e3
          have d0 := (hcl (n * 2) (by omega)).trans (ccells_get out n d hd).1
          have hw : wrap64 ((n : Int) + 1) = ((n + 1 : Nat) : Int) := by have := hcap.out; simp [wrap64]; omega
          have HW : Hid (wrap64 ((n : Int) + 1) = ((n + 1 : Nat) : Int)) := hw
          have hlt2 : decide (d.1 < c.1) = true := by simp; omega
          have hlt3 : decide ((n : Int) < (j : Int)) = true := by simp; omega
          have HN : Hid (n < insAt c out) := hn
          clear hcl hw hle hn hdc hd
          go_wp2
          go_region
          all_goals go_wp2
          all_goals
            go_roundg (gk - 1)
            case measure => have := GN.out; have := HN.out; omega
            case rel => exact ⟨n + 1, by have := GN.out; have := HN.out; omega, by rw [HW.out], TQ.out.trans (Turned.drew _ _) fun _ _ q => q⟩
        · have hnn : n = insAt c out := by have := GN.out; omega
          have HN : Hid (n = insAt c out) := hnn
          clear hn hnn
          have hcase : (n = j ∧ decide ((n : Int) < (j : Int)) = false) ∨ (∃ d, n < j ∧ out[n]? = some d ∧ decide ((n : Int) < (j : Int)) = true ∧ decide (d.1 < c.1) = false) := by
            rcases Nat.lt_or_ge n j with q | q
            · refine .inr ⟨out[n]'(by rw [O.out.2.1]; exact q), q, List.getElem?_eq_getElem _, by simp; omega, ?_⟩
              have := insAt_ge c out (out[n]'(by rw [O.out.2.1]; exact q)) (by rw [← HN.out]; exact List.getElem?_eq_getElem _)
              simpa using this
            · exact .inl ⟨by have := HN.out; omega, by simp; omega⟩
          have hnj : n ≤ j := by have := HN.out; omega
          have SB := sl_bound (SL.out.turned TQ.out fun _ _ q => q)
          obtain ⟨v1, r1, s1⟩ := SB.run_to (P := Try.prog) Try.underlying22 info31 n .i64 n rfl hnj
          obtain ⟨v2, r2, s2⟩ := SB.run_from (P := Try.prog) Try.underlying22 info31 n .i64 n rfl hnj
          rw [ccells_take] at s1
          rw [ccells_drop] at s2
          have S1 : Hid (Sl wr.drew _ 31 2 v1 (ccells (out.take n)) n) := s1.drew
          have S2 : Hid (Sl wr.drew _ 31 2 v2 (ccells (out.drop n)) (j - n)) := s2.drew
          have m1 : Hid (0 + n ≤ maxLen ∧ (0 + n) * 24 ≤ 140737488355328) := (by have := hcap.out; simp only [maxLen]; omega : 0 + n ≤ maxLen ∧ (0 + n) * 24 ≤ 140737488355328)
          have m2 : Hid (n + 1 ≤ maxLen ∧ (n + 1) * 24 ≤ 140737488355328) := (by have := hcap.out; simp only [maxLen]; omega : n + 1 ≤ maxLen ∧ (n + 1) * 24 ≤ 140737488355328)
          have m3 : Hid (n + 1 + (j - n) ≤ maxLen ∧ (n + 1 + (j - n)) * 24 ≤ 140737488355328) := (by have := hcap.out; simp only [maxLen]; omega : n + 1 + (j - n) ≤ maxLen ∧ (n + 1 + (j - n)) * 24 ≤ 140737488355328)
          have hw : wrap64 ((j : Int) + 1) = ((j + 1 : Nat) : Int) := by have := hcap.out; simp [wrap64]; omega
          have HW : Hid (wrap64 ((j : Int) + 1) = ((j + 1 : Nat) : Int)) := hw
          clear SB s1 s2 hw hle
          have hcase2 : (decide ((n : Int) < (j : Int)) = false) ∨ (∃ d g o2, n < j ∧ oa = some ⟨g, o2, none⟩ ∧ g < wr.heap.size ∧ wr.cell? ⟨g, o2 + n * 2, none⟩ = some (.int .u32 (d.1 : Nat)) ∧ decide ((n : Int) < (j : Int)) = true ∧ decide ((d : Ch).1 < c.1) = false) := by
            rcases hcase with ⟨_, q⟩ | ⟨d, q1, q2, q3, q4⟩
            · exact .inl q
            · obtain ⟨g, o2, ocap2, hv, -, -, -, hcl, -, hgl⟩ := (SL.out.turned TQ.out fun _ _ q => q).opens (by omega)
              injection hv with e1 e2 e3
              exact .inr ⟨d, g, o2, q1, e1, hgl, (hcl (n * 2) (by omega)).trans (ccells_get out n d q2).1, q3, q4⟩
          have HJ : Hid (n ≤ j) := hnj
          have hlow : (0 : Int) ≤ (n : Int) := by omega
          clear hcase hnj
          rcases hcase2 with hd1 | ⟨d, g, o2, hnj2, rfl, hgl, d0, hd1, hd2⟩
          all_goals have hd3 := hd1
          all_goals simp only [Int.ofNat_lt] at hd3
          all_goals go_wp2
          all_goals go_region
          all_goals
            go_wp2_with (at_builtin; first | (refine wpList_append rfl _ _ 22 22 rfl (Sl.nil _ (fun _ => False) 31 2) Try.underlying22 info31 rfl (by decide) rfl v1 rfl (S1.out.src Try.underlying22 (ccells_one _)) m1.out.1 m1.out.2 ?_; intro x3 w3 q1 t1; rw [Nat.zero_add, List.nil_append] at q1; obtain ⟨a3, cap3, hv3, -, -⟩ := q1.value; subst hv3; have e0 : w3.cell? ⟨b, off + j * 2, none⟩ = some (.int .u32 (c.1 : Nat)) := (by rw [World.cell?_of_block (w := wr.drew) (w' := w3) (t1.block b hbr fun q => q)]; exact c0'); have e1 : w3.cell? ⟨b, off + j * 2 + 1, none⟩ = some (.string c.2) := (by rw [World.cell?_of_block (w := wr.drew) (w' := w3) (t1.block b hbr fun q => q)]; exact c1'); have Q1 : Hid (Sl w3 _ 31 2 _ _ _ ∧ Turned _ wr.drew w3) := ⟨q1, t1⟩; clear q1 t1) | (refine wpList_append rfl _ _ 22 22 rfl (Q1.out.1.turned (Turned.alloc (fun _ => False) _ (.cells #[.int .u32 (c.1 : Nat), .string c.2] 31)) (fun _ _ q => q)) Try.underlying22 info31 rfl (by decide) rfl (.slice (some ⟨w3.heap.size, 0, none⟩) 1 1) rfl (src_ch c w3) m2.out.1 m2.out.2 ?_; intro x4 w4 q2 t2; obtain ⟨a4, cap4, hv4, -, -⟩ := q2.value; subst hv4; have Q2 : Hid (Sl w4 _ 31 2 _ _ _ ∧ Turned _ (w3.alloc (.cells #[.int .u32 (c.1 : Nat), .string c.2] 31)) w4) := ⟨q2, t2⟩; clear q2 t2) | (refine wpList_append rfl _ _ 22 22 rfl Q2.out.1 Try.underlying22 info31 rfl (by decide) rfl v2 rfl ((S2.out.turned (T := fun b => wr.drew.heap.size ≤ b) ((Q1.out.2.mono fun i hi q => q.elim).trans ((Turned.alloc (fun b => wr.drew.heap.size ≤ b) w3 (.cells #[.int .u32 (c.1 : Nat), .string c.2] 31)).trans (Q2.out.2.mono (S' := fun b => wr.drew.heap.size ≤ b) fun i hi q => q.elim (fun q => q.elim) id) fun _ _ q => q) fun _ _ q => q) fun b q z => by have := q.2; have h3 : wr.drew.heap.size = wr.heap.size := rfl; omega).src Try.underlying22 (ccells_one _)) m3.out.1 m3.out.2 ?_; intro x5 w5 q3 t3; obtain ⟨a5, cap5, hv5, -, -⟩ := q3.value; subst hv5; have Q3 : Hid (Sl w5 _ 31 2 _ _ _ ∧ Turned _ w4 w5) := ⟨q3, t3⟩; clear q3 t3))
          all_goals
            go_roundg (l.length - j - 1)
            case measure => have := G.out; have := HL.out; omega
            case rel =>
              have hlen : n + 1 + (j - n) = j + 1 := by have := HJ.out; omega
              have q3 := Q3.out.1
              have hins : ccells (out.take n) ++ ccells [c] ++ ccells (out.drop n) = ccells (sortCh (l.take (j + 1))) := by
                rw [sortCh_take l j c O.out.2.2, ← O.out.1, insCh_at, ← HN.out, ← ccells_append, ← ccells_append]
                simp
              rw [hins] at q3
              have z1 := T.out.size; have z2 := TQ.out.size; have z3 := Q1.out.2.size; have z4 := Q2.out.2.size
              have z5 : wr.drew.heap.size = wr.heap.size := rfl
              have z6 : (w3.alloc (.cells #[.int .u32 (c.1 : Nat), .string c.2] 31)).heap.size = w3.heap.size + 1 := by simp
              refine ⟨j + 1, by have := G.out; have := HL.out; omega, by rw [HW.out], ?_, ?_⟩
              · rw [hlen] at q3
                rw [← hlen] at q3 ⊢
                exact q3.widen fun b q => by rcases q with (((q | q) | q) | q) <;> first | exact q.elim | omega
              · have k1 : Turned (fun _ => False) w w3 := ((T.out.trans TQ.out fun _ _ q => q).trans (Turned.drew (fun _ => False) _) fun _ _ q => q).trans Q1.out.2 fun _ _ q => q
                have k2 := k1.trans (Turned.alloc (fun _ => False) w3 (.cells #[.int .u32 (c.1 : Nat), .string c.2] 31)) fun _ _ q => q
                have k3 : Turned (fun _ => False) w w4 := k2.comp Q2.out.2 fun i hi q => by rcases q with q | (q | q) <;> first | exact q.elim | exact q | omega
                exact k3.comp Q3.out.2 fun i hi q => by rcases q with q | ((q | q) | q) <;> first | exact q.elim | exact q | omega
    · have hj : j = L := by have := G.out; have := HL.out; omega
      subst hj
      have HE : Hid (Sl wr (fun b => w.heap.size ≤ b) 31 2 u3 (ccells (sortCh l)) j) := by
        have := hsl
        rwa [List.take_of_length_le (by have := HL.out; omega)] at this
      obtain ⟨oa, ocap, rfl, hoc, hom⟩ := hsl.value
      clear hsl
      go_wp2
      go_ret
      exact ⟨_, rfl, HE.out, T.out⟩
end Go.Proofs.Ytfeljngmidhajaa
